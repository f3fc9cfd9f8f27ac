/- Numbers by keys, in slots: the reference: how a key is taken out. Conditions: the numbers fit their kinds. -/
import Derived.Test.YtnojinpneojfeaaHx10
set_option linter.unusedVariables false
set_option linter.unusedSimpArgs false
set_option maxRecDepth 20000
set_option maxHeartbeats 1600000
-- axs, AThen, ABlock, dstsOk, AStep, callsF, AWant, aop, AS.ev, AS.put, upd, AS.bound, abin, aint, aload, astore, cellsAt, AV.cells, alen, elems, AV.int?, FPost, aresL, ares1, pack, afill, splice, Value.oneCell', Nat.reduceLT, Nat.reduceLeDiff, Nat.reduceEqDiff, Nat.reduceAdd, Nat.reduceMul, Nat.reduceSub, Nat.reduceBEq, Int.reduceLE, Int.reduceLT, Int.reduceToNat, Int.reduceNeg, Int.reduceEq, axt, ftK, pickP, AScope, AAll, pickQ, ftQ, inHeap, RT, Sl3.cells, tys: RT, Sl3.cells
-- NOIDS: noIdsE_TL
-- LENS: TL_len
namespace Go.Al
open Go.Proofs
/-- Those that stand behind a place. -/
def rsT (T : Tb) (q m : Nat) : List Sl3 := (List.range m).map fun j => sl T (adv T.length q (j + 1))
theorem rsT_len (T : Tb) (q m : Nat) : (rsT T q m).length = m := by simp [rsT]
theorem rsT_succ (T : Tb) (q m : Nat) : rsT T q (m + 1) = rsT T q m ++ [sl T (adv T.length q (m + 1))] := by simp [rsT, List.range_succ]
theorem rsT_get {T : Tb} {q m j : Nat} (h : j < m) : (rsT T q m)[j]? = some (sl T (adv T.length q (j + 1))) := by simp [rsT, h]
theorem TL_snoc (T : Tb) (x : Sl3) : TL T ++ [[.sc (.int .u64 x.key), .sc (.int .i32 x.n), .sc (.bool x.full)]] = TL (T ++ [x]) := by simp [TL, Sl3.cells]
theorem TL_geti {l : List Sl3} {j : Nat} {x : Sl3} (h : l[j]? = some x) : (TL l)[j]? = some [.sc (.int .u64 x.key), .sc (.int .i32 x.n), .sc (.bool x.full)] := by simp [TL, h, Sl3.cells]
theorem rHtDelete {T : Tb} (ok : HOk T) {k : Int} (hk : Key k) :
    PCalls Try.prog 36 [RT T, .sc (.int .u64 k)] (.tup [RT (hDel T k).1, .sc (.bool (hDel T k).2)]) := by
  have hp := ok.pw
  have hl := hp.le
  have hq := ok.find k
  have hlk := rHtLook hp hk hq
  have hg := TL_get hq.lt
  have r0 : (0 : Int) ≤ (hF T k : Int) := by omega
  have r1 : (hF T k : Int) < T.length := by have := hq.lt; omega
  have b1 : T.length * 16 ≤ 140737488355328 := by omega
  have b2 : T.length ≤ 1099511627776 := by omega
  have c2 : ¬ ((T.length : Int) = 0) := by omega
  refine PCalls.intro2 Try.func36 rfl rfl Try.ntmps36 Try.results36 (by simp) fun n => ?_; simp (maxSteps := 400000) (dsimp := false) only [axs, AThen, ABlock, dstsOk, AStep, callsF, AWant, aop, AS.ev, AS.put, upd, AS.bound, abin, aint, aload, astore, cellsAt, AV.cells, alen, elems, AV.int?, FPost, aresL, ares1, pack, afill, splice, Value.oneCell', Nat.reduceLT, Nat.reduceLeDiff, Nat.reduceEqDiff, Nat.reduceAdd, Nat.reduceMul, Nat.reduceSub, Nat.reduceBEq, Int.reduceLE, Int.reduceLT, Int.reduceToNat, Int.reduceNeg, Int.reduceEq, axt, ftK, pickP, AScope, AAll, pickQ, ftQ, inHeap, RT, Sl3.cells, tys]
  refine ACallK.strict rfl (hlk) (by simp only [SeesL, axs, axt, AS.ev, AS.put, upd, inHeap, Nat.reduceLT, Nat.reduceEqDiff, Nat.reduceAdd, Nat.reduceBEq, RT, Sl3.cells]; repeat' (first | exact True.intro | exact Sees.sc | exact Sees.none | ((with_reducible refine Sees.same ?_) <;> simp [noIds, noIdsL, noIdsE, noIdsE_U, noIdsE_UU, noIdsE_TL] <;> fail) | (refine Live.sees ?_ ?_ <;> first | assumption | (simp [noIdsE_U, noIdsE_UU, noIdsE_TL] <;> fail)) | (refine Sees.obj ?_ ?_ ?_ <;> first | exact ⟨_, _, by assumption, rfl⟩ | (simp [U_len, UU_len, TL_len] <;> fail) | (simp [noIdsE_U, noIdsE_UU, noIdsE_TL] <;> fail) | (simp [U, UU, upd] <;> fail) | (simp [U, UU, upd, neS, *] <;> fail)) | (refine Sees.of_seen 3 ?_ <;> simp [seen, upd, noIdsE, noIdsL, noIds, U, UU, Nat.add_assoc] <;> fail) | refine Sees.agg ?_ | refine And.intro ?_ ?_ | simp only [SeesL])) ?_; simp (maxSteps := 400000) (dsimp := false) only [axs, AThen, ABlock, dstsOk, AStep, callsF, AWant, aop, AS.ev, AS.put, upd, AS.bound, abin, aint, aload, astore, cellsAt, AV.cells, alen, elems, AV.int?, FPost, aresL, ares1, pack, afill, splice, Value.oneCell', Nat.reduceLT, Nat.reduceLeDiff, Nat.reduceEqDiff, Nat.reduceAdd, Nat.reduceMul, Nat.reduceSub, Nat.reduceBEq, Int.reduceLE, Int.reduceLT, Int.reduceToNat, Int.reduceNeg, Int.reduceEq, axt, ftK, pickP, AScope, AAll, pickQ, ftQ, inHeap, RT, Sl3.cells, tys]
  cases hf : (sl T (hF T k)).full with
  | false =>
    rw [hf] at hg
    have hd : hDel T k = (T, false) := by unfold hDel; rw [if_neg (by rw [hf]; simp)]
    rw [hd]
    simp (maxSteps := 400000) (dsimp := false) only [hg, r0, r1, TL_len, axs, AThen, ABlock, dstsOk, AStep, callsF, AWant, aop, AS.ev, AS.put, upd, AS.bound, abin, aint, aload, astore, cellsAt, AV.cells, alen, elems, AV.int?, FPost, aresL, ares1, pack, afill, splice, Value.oneCell', Nat.reduceLT, Nat.reduceLeDiff, Nat.reduceEqDiff, Nat.reduceAdd, Nat.reduceMul, Nat.reduceSub, Nat.reduceBEq, Int.reduceLE, Int.reduceLT, Int.reduceToNat, Int.reduceNeg, Int.reduceEq, axt, ftK, pickP, AScope, AAll, pickQ, ftQ, inHeap, RT, Sl3.cells, tys]
    refine ⟨_, rfl, ?_⟩; simp (maxSteps := 400000) (dsimp := false) only [SeesL, axs, AThen, ABlock, dstsOk, AStep, callsF, AWant, aop, AS.ev, AS.put, upd, AS.bound, abin, aint, aload, astore, cellsAt, AV.cells, alen, elems, AV.int?, FPost, aresL, ares1, pack, afill, splice, Value.oneCell', Nat.reduceLT, Nat.reduceLeDiff, Nat.reduceEqDiff, Nat.reduceAdd, Nat.reduceMul, Nat.reduceSub, Nat.reduceBEq, Int.reduceLE, Int.reduceLT, Int.reduceToNat, Int.reduceNeg, Int.reduceEq, axt, ftK, pickP, AScope, AAll, pickQ, ftQ, inHeap, RT, Sl3.cells, tys] <;> repeat' (first | exact True.intro | exact Sees.sc | exact Sees.none | ((with_reducible refine Sees.same ?_) <;> simp [noIds, noIdsL, noIdsE, noIdsE_U, noIdsE_UU, noIdsE_TL] <;> fail) | (refine Live.sees ?_ ?_ <;> first | assumption | (simp [noIdsE_U, noIdsE_UU, noIdsE_TL] <;> fail)) | (refine Sees.obj ?_ ?_ ?_ <;> first | exact ⟨_, _, by assumption, rfl⟩ | (simp [U_len, UU_len, TL_len] <;> fail) | (simp [noIdsE_U, noIdsE_UU, noIdsE_TL] <;> fail) | (simp [U, UU, upd, neS] <;> fail) | (simp [U, UU, upd, neS, *] <;> fail)) | refine Sees.agg ?_ | refine Sees.tup ?_ | refine And.intro ?_ ?_ | simp only [SeesL])
  | true =>
    have hh : ∀ k, hm T.length k < T.length := fun k => hm_lt (by omega) k
    have hc := clen_is hq.lt hf ok.room
    have hhf := half_all hh ok.inv hq.lt hc
    have hd : hDel T k = (rel T.length (hm T.length) T (hF T k) (clen T (hF T k)) (clen T (hF T k)), true) := by unfold hDel; rw [if_pos hf]
    rw [hd]
    rw [hf] at hg
    have hql := hq.lt
    generalize hF T k = q at *
    generalize clen T q = c at *
    have hclt := hc.lt
    have w2 : IntKind.i64.wrap ((q : Int) + 1) = (q : Int) + 1 := wrap_in (by omega) (by omega)
    have w3 := rem_next hql
    have hset : (TL T).set q [.sc (.int .u64 0), .sc (.int .i32 0), .sc (.bool false)] = TL (T.set q z3) := TL_set T q z3
    simp (maxSteps := 400000) (dsimp := false) only [hg, r0, r1, b1, b2, c2, w2, w3, hset, TL_len, axs, AThen, ABlock, dstsOk, AStep, callsF, AWant, aop, AS.ev, AS.put, upd, AS.bound, abin, aint, aload, astore, cellsAt, AV.cells, alen, elems, AV.int?, FPost, aresL, ares1, pack, afill, splice, Value.oneCell', Nat.reduceLT, Nat.reduceLeDiff, Nat.reduceEqDiff, Nat.reduceAdd, Nat.reduceMul, Nat.reduceSub, Nat.reduceBEq, Int.reduceLE, Int.reduceLT, Int.reduceToNat, Int.reduceNeg, Int.reduceEq, axt, ftK, pickP, AScope, AAll, pickQ, ftQ, inHeap, RT, Sl3.cells, tys]
    refine ALoop.upto c (fun m st => st.t 4 = .ptr (n + 1) 1 0 0 ∧ st.t 6 = .sc (.int .i64 (adv T.length q (m + 1))) ∧ st.t 8 = .sl (n + 1 + 1 + 1) 3 0 T.length ∧ st.H (n + 1) = some (.obj 27 1 [[.sc (.slice none 0 0)]] false) ∧ st.H (n + 1 + 1 + 1) = some (.obj 34 3 (TL (clr T.length q T m)) false) ∧ n + 1 + 1 + 1 + 1 ≤ st.n ∧ ∃ v, st.t 9 = v ∧ Live 34 3 st.H (TL (rsT T q m)) v ∧ ∀ id len, v = .sl id 3 0 len → n + 1 + 1 + 1 < id ∧ id < st.n) ?_ ?_
    · refine ⟨rfl, rfl, rfl, by simp [upd, neS], by simp [upd, neS, clr], by simp, _, rfl, .inl ⟨rfl, rfl⟩, fun id len e => by cases e⟩
    rintro m st hmj hb ⟨t4, t6, t8, h1, h3, hn, v, t9, hv, hid⟩
    have hat : adv T.length q (m + 1) < T.length := adv_lt hql (by omega)
    have hcl := clr_len T.length q T m
    have hgs := clr_sl (q := q) (T := T) rfl hql m (adv T.length q (m + 1)) (by omega) hat
    rw [D_adv hql (by omega), if_neg (by omega)] at hgs
    have hg2 := TL_get (T := clr T.length q T m) (q := adv T.length q (m + 1)) (by omega)
    rw [hgs] at hg2
    have hset2 : (TL (clr T.length q T m)).set (adv T.length q (m + 1)) [.sc (.int .u64 0), .sc (.int .i32 0), .sc (.bool false)] = TL (clr T.length q T (m + 1)) := TL_set _ _ z3
    have hrs := rsT_succ T q m
    have hrl := rsT_len T q m
    have hsn := TL_snoc (rsT T q m) (sl T (adv T.length q (m + 1)))
    rw [← hrs] at hsn
    have x0 : (0 : Int) ≤ (adv T.length q (m + 1) : Int) := by omega
    have x1 : (adv T.length q (m + 1) : Int) < T.length := by omega
    have w4 : IntKind.i64.wrap ((adv T.length q (m + 1) : Int) + 1) = (adv T.length q (m + 1) : Int) + 1 := wrap_in (by omega) (by omega)
    have w5 := rem_next hat
    by_cases hx : m < c
    · have hon := hc.on (m + 1) (by omega) (by omega)
      rw [hon] at hg2 hsn
      have hnx : adv T.length q (m + 1 + 1) = adv T.length (adv T.length q (m + 1)) 1 := adv_succ hql (by omega)
      have ne1 : ¬ n + 1 = st.n ∧ ¬ n + 1 + 1 + 1 = st.n ∧ ¬ n + 1 = st.n + 1 ∧ ¬ n + 1 + 1 + 1 = st.n + 1 := by and_intros <;> omega
      rcases hv with ⟨e1, e2⟩ | ⟨id, e1, e2⟩
      · rw [e2] at t9
        have hm0 : m = 0 := by have := congrArg List.length e1; rw [TL_len, hrl] at this; simpa using this
        simp (maxSteps := 400000) (dsimp := false) only [t6, t8, t9, h1, h3, hg2, x0, x1, w4, w5, c2, hset2, ne1, TL_len, axs, AThen, ABlock, dstsOk, AStep, callsF, AWant, aop, AS.ev, AS.put, upd, AS.bound, abin, aint, aload, astore, cellsAt, AV.cells, alen, elems, AV.int?, FPost, aresL, ares1, pack, afill, splice, Value.oneCell', Nat.reduceLT, Nat.reduceLeDiff, Nat.reduceEqDiff, Nat.reduceAdd, Nat.reduceMul, Nat.reduceSub, Nat.reduceBEq, Int.reduceLE, Int.reduceLT, Int.reduceToNat, Int.reduceNeg, Int.reduceEq, axt, ftK, pickP, AScope, AAll, pickQ, ftQ, inHeap, RT, Sl3.cells, tys]
        subst hm0
        refine ⟨hx, t4, by rw [hnx], by omega, _, rfl, Live.mk ?_ (by rw [TL_len, rsT_len]), fun id len e => ?_⟩
        · rw [upd_ne _ _ (by omega), upd_same, ← hsn]; rfl
        · simp only [AV.sl.injEq] at e; omega
      · rw [e1] at t9
        obtain ⟨q1, q2⟩ := hid _ _ e1
        rw [TL_len, hrl] at t9
        have ne2 : ¬ n + 1 = id ∧ ¬ n + 1 + 1 + 1 = id ∧ ¬ id = n + 1 + 1 + 1 ∧ ¬ id = st.n ∧ ¬ st.n = id := by and_intros <;> omega
        have g1 : m ≤ 1099511627775 := by omega
        have g2 : (m + 1) * 16 ≤ 140737488355328 ↔ True := by simp; omega
        simp (maxSteps := 400000) (dsimp := false) only [t6, t8, t9, h1, h3, e2, hg2, x0, x1, w4, w5, c2, hset2, ne1, ne2, TL_len, hrl, g1, g2, axs, AThen, ABlock, dstsOk, AStep, callsF, AWant, aop, AS.ev, AS.put, upd, AS.bound, abin, aint, aload, astore, cellsAt, AV.cells, alen, elems, AV.int?, FPost, aresL, ares1, pack, afill, splice, Value.oneCell', Nat.reduceLT, Nat.reduceLeDiff, Nat.reduceEqDiff, Nat.reduceAdd, Nat.reduceMul, Nat.reduceSub, Nat.reduceBEq, Int.reduceLE, Int.reduceLT, Int.reduceToNat, Int.reduceNeg, Int.reduceEq, axt, ftK, pickP, AScope, AAll, pickQ, ftQ, inHeap, RT, Sl3.cells, tys]
        refine ⟨hx, t4, by rw [hnx], by omega, _, rfl, Live.mk ?_ (by rw [TL_len, rsT_len]), fun id len e => ?_⟩
        · rw [upd_ne _ _ (by omega), upd_same, ← hsn]
        · simp only [AV.sl.injEq] at e; omega
    · have hmc : m = c := by omega
      subst hmc
      have hoff := hc.off
      rw [hoff] at hg2
      simp (maxSteps := 400000) (dsimp := false) only [t6, t8, h3, hg2, x0, x1, TL_len, hcl, axs, AThen, ABlock, dstsOk, AStep, callsF, AWant, aop, AS.ev, AS.put, upd, AS.bound, abin, aint, aload, astore, cellsAt, AV.cells, alen, elems, AV.int?, FPost, aresL, ares1, pack, afill, splice, Value.oneCell', Nat.reduceLT, Nat.reduceLeDiff, Nat.reduceEqDiff, Nat.reduceAdd, Nat.reduceMul, Nat.reduceSub, Nat.reduceBEq, Int.reduceLE, Int.reduceLT, Int.reduceToNat, Int.reduceNeg, Int.reduceEq, axt, ftK, pickP, AScope, AAll, pickQ, ftQ, inHeap, RT, Sl3.cells, tys]
      have ne5 : ¬ n + 1 = st.n ∧ ¬ n + 1 + 1 + 1 = st.n ∧ ¬ st.n = n + 1 ∧ ¬ st.n = n + 1 + 1 + 1 ∧ ¬ n + 1 = n + 1 + 1 + 1 := by and_intros <;> omega
      refine ALoop.shutO (n + 1 + 1 + 1) (t := 34) (z := 3) (es := TL (clr T.length q T m)) (by simp [upd, ne5, h3]) ?_
      rcases hv with ⟨e1, e2⟩ | ⟨id, e1, e2⟩
      · have hm0 : m = 0 := by have := congrArg List.length e1; rw [TL_len, hrl] at this; simpa using this
        subst hm0
        rw [e2] at t9
        refine ALoop.upto 0 (fun j s => s.t 4 = .ptr (n + 1) 1 0 0 ∧ s.t 9 = .sc (.slice none 0 0) ∧ s.t 10 = .ptr st.n 1 0 0 ∧ s.t 11 = .sc (.int .i64 0) ∧ s.H (n + 1) = some (.obj 27 1 [[.sc (.slice none 0 0)]] false) ∧ s.H st.n = some (.obj 27 1 [[.sl (n + 1 + 1 + 1) 3 0 T.length]] false) ∧ s.H (n + 1 + 1 + 1) = some (.obj 34 3 (TL (clr T.length q T 0)) true)) ?_ ?_
        · refine ⟨t4, t9, ?_, ?_, ?_, ?_, ?_⟩ <;> simp [upd, ne5, h1, h3, hcl, t8]
        rintro j s hj hb2 ⟨s4, s9, s10, s11, g1, g2, g3⟩
        simp (maxSteps := 400000) (dsimp := false) only [s4, s9, s10, s11, g1, g2, axs, AThen, ABlock, dstsOk, AStep, callsF, AWant, aop, AS.ev, AS.put, upd, AS.bound, abin, aint, aload, astore, cellsAt, AV.cells, alen, elems, AV.int?, FPost, aresL, ares1, pack, afill, splice, Value.oneCell', Nat.reduceLT, Nat.reduceLeDiff, Nat.reduceEqDiff, Nat.reduceAdd, Nat.reduceMul, Nat.reduceSub, Nat.reduceBEq, Int.reduceLE, Int.reduceLT, Int.reduceToNat, Int.reduceNeg, Int.reduceEq, axt, ftK, pickP, AScope, AAll, pickQ, ftQ, inHeap, RT, Sl3.cells, tys]
        have e0 : rel T.length (hm T.length) T q 0 0 = clr T.length q T 0 := rfl
        rw [e0]
        refine ⟨_, rfl, ?_⟩; simp (maxSteps := 400000) (dsimp := false) only [SeesL, axs, AThen, ABlock, dstsOk, AStep, callsF, AWant, aop, AS.ev, AS.put, upd, AS.bound, abin, aint, aload, astore, cellsAt, AV.cells, alen, elems, AV.int?, FPost, aresL, ares1, pack, afill, splice, Value.oneCell', Nat.reduceLT, Nat.reduceLeDiff, Nat.reduceEqDiff, Nat.reduceAdd, Nat.reduceMul, Nat.reduceSub, Nat.reduceBEq, Int.reduceLE, Int.reduceLT, Int.reduceToNat, Int.reduceNeg, Int.reduceEq, axt, ftK, pickP, AScope, AAll, pickQ, ftQ, inHeap, RT, Sl3.cells, tys] <;> repeat' (first | exact True.intro | exact Sees.sc | exact Sees.none | ((with_reducible refine Sees.same ?_) <;> simp [noIds, noIdsL, noIdsE, noIdsE_U, noIdsE_UU, noIdsE_TL] <;> fail) | (refine Live.sees ?_ ?_ <;> first | assumption | (simp [noIdsE_U, noIdsE_UU, noIdsE_TL] <;> fail)) | (refine Sees.obj ?_ ?_ ?_ <;> first | exact ⟨_, _, by assumption, rfl⟩ | (simp [U_len, UU_len, TL_len] <;> fail) | (simp [noIdsE_U, noIdsE_UU, noIdsE_TL] <;> fail) | (simp [U, UU, upd, neS] <;> fail) | (simp [U, UU, upd, neS, *] <;> fail)) | refine Sees.agg ?_ | refine Sees.tup ?_ | refine And.intro ?_ ?_ | simp only [SeesL])
        exact Sees.obj ⟨_, _, (by rw [upd_ne _ _ (by omega)]; exact g3), rfl⟩ (by rw [TL_len, hcl]) (noIdsE_TL _)
      · rw [e1] at t9
        obtain ⟨q1, q2⟩ := hid _ _ e1
        rw [TL_len, hrl] at t9
        refine ALoop.upto m (fun j s => s.t 4 = .ptr (n + 1) 1 0 0 ∧ s.t 9 = .sl id 3 0 m ∧ s.t 10 = .ptr st.n 1 0 0 ∧ s.t 11 = .sc (.int .i64 j) ∧ s.H (n + 1) = some (.obj 27 1 [[.sc (.slice none 0 0)]] false) ∧ s.H id = some (.obj 34 3 (TL (rsT T q m)) false) ∧ ∃ w, s.H st.n = some (.obj 27 1 [[w]] false) ∧ TabV 34 (n + 1 + 1 + 1) s.H (rel T.length (hm T.length) T q m j) w) ?_ ?_
        · have ne6 : ¬ id = st.n ∧ ¬ id = n + 1 + 1 + 1 := by omega
          refine ⟨t4, t9, rfl, rfl, ?_, ?_, .sl (n + 1 + 1 + 1) 3 0 T.length, ?_, .inr ⟨by rw [show (rel T.length (hm T.length) T q m 0).length = T.length from hcl], ?_⟩⟩
          · simp [upd, ne5, h1]
          · simp [upd, ne5, ne6, e2]
          · simp [upd, ne5, hcl, t8]
          · simp [upd, ne5]; rfl
        rintro j s hj hb2 ⟨s4, s9, s10, s11, g1, g2, w, g3, g4⟩
        have hhj := hhf j hj
        have hlen := hhj.inv.len
        by_cases hx2 : j < m
        · have hxf := hc.on (j + 1) (by omega) (by omega)
          have hkk := ok.keys _ ⟨hxf, _, adv_lt hql (by omega), rfl⟩
          have hrm : Room T.length (rel T.length (hm T.length) T q m j) := by
            refine ⟨(shf T.length (hm T.length) T q j).2, hhj.hole, ?_⟩
            rw [hhj.same _ hhj.hole, if_pos rfl]; rfl
          have hlay := rHtLay (T := rel T.length (hm T.length) T q m j) (by rw [hlen]; exact hp) (by rw [hlen]; exact hrm) (sl T (adv T.length q (j + 1))) hkk
          rw [hlen] at hlay
          have hlay : PCalls Try.prog 39 [RT (rel T.length (hm T.length) T q m j), .agg (sl T (adv T.length q (j + 1))).cells] (RT (rel T.length (hm T.length) T q m (j + 1))) := hlay
          have hgj := TL_geti (rsT_get (T := T) (q := q) hx2)
          have y0 : (0 : Int) ≤ (j : Int) := by omega
          have y1 : (j : Int) < (m : Int) := by omega
          have w6 : IntKind.i64.wrap ((j : Int) + 1) = ((j + 1 : Nat) : Int) := by rw [wrap_in (by omega) (by omega)]; omega
          generalize rel T.length (hm T.length) T q m (j + 1) = V at *
          generalize rel T.length (hm T.length) T q m j = W at *
          rcases g4 with rfl | ⟨rfl, hid4⟩
          · simp (maxSteps := 400000) (dsimp := false) only [s9, s10, s11, y0, y1, axs, AThen, ABlock, dstsOk, AStep, callsF, AWant, aop, AS.ev, AS.put, upd, AS.bound, abin, aint, aload, astore, cellsAt, AV.cells, alen, elems, AV.int?, FPost, aresL, ares1, pack, afill, splice, Value.oneCell', Nat.reduceLT, Nat.reduceLeDiff, Nat.reduceEqDiff, Nat.reduceAdd, Nat.reduceMul, Nat.reduceSub, Nat.reduceBEq, Int.reduceLE, Int.reduceLT, Int.reduceToNat, Int.reduceNeg, Int.reduceEq, axt, ftK, pickP, AScope, AAll, pickQ, ftQ, inHeap, RT, Sl3.cells, tys]
            refine ADraw.planR [5] [(0, true), (1, true), (2, true), (3, true), (4, true), (5, true), (6, true)] [(0, false), (0, false), (0, false), (0, false), (0, false), (0, true), (0, false)] mixed (by kernel_rfl) (by kernel_rfl) ?_
            simp (maxSteps := 400000) (dsimp := false) only [s9, s10, s11, g2, g3, y0, y1, hgj, axs, AThen, ABlock, dstsOk, AStep, callsF, AWant, aop, AS.ev, AS.put, upd, AS.bound, abin, aint, aload, astore, cellsAt, AV.cells, alen, elems, AV.int?, FPost, aresL, ares1, pack, afill, splice, Value.oneCell', Nat.reduceLT, Nat.reduceLeDiff, Nat.reduceEqDiff, Nat.reduceAdd, Nat.reduceMul, Nat.reduceSub, Nat.reduceBEq, Int.reduceLE, Int.reduceLT, Int.reduceToNat, Int.reduceNeg, Int.reduceEq, axt, ftK, pickP, AScope, AAll, pickQ, ftQ, inHeap, RT, Sl3.cells, tys]
            refine ASoloK.strict rfl rfl (hlay) (by simp only [SeesL, s10, g3, s11, w6, axs, axt, AS.ev, AS.put, upd, inHeap, Nat.reduceLT, Nat.reduceEqDiff, Nat.reduceAdd, Nat.reduceBEq, RT, Sl3.cells]; repeat' (first | exact True.intro | exact Sees.sc | exact Sees.none | ((with_reducible refine Sees.same ?_) <;> simp [noIds, noIdsL, noIdsE, noIdsE_U, noIdsE_UU, noIdsE_TL] <;> fail) | (refine Live.sees ?_ ?_ <;> first | assumption | (simp [noIdsE_U, noIdsE_UU, noIdsE_TL] <;> fail)) | (refine Sees.obj ?_ ?_ ?_ <;> first | exact ⟨_, _, by assumption, rfl⟩ | (simp [U_len, UU_len, TL_len] <;> fail) | (simp [noIdsE_U, noIdsE_UU, noIdsE_TL] <;> fail) | (simp [U, UU, upd] <;> fail) | (simp [U, UU, upd, neS, *] <;> fail)) | (refine Sees.of_seen 3 ?_ <;> simp [seen, upd, noIdsE, noIdsL, noIds, U, UU, Nat.add_assoc] <;> fail) | refine Sees.agg ?_ | refine And.intro ?_ ?_ | simp only [SeesL])) ?_; simp (maxSteps := 400000) (dsimp := false) only [s10, g3, s11, w6, axs, AThen, ABlock, dstsOk, AStep, callsF, AWant, aop, AS.ev, AS.put, upd, AS.bound, abin, aint, aload, astore, cellsAt, AV.cells, alen, elems, AV.int?, FPost, aresL, ares1, pack, afill, splice, Value.oneCell', Nat.reduceLT, Nat.reduceLeDiff, Nat.reduceEqDiff, Nat.reduceAdd, Nat.reduceMul, Nat.reduceSub, Nat.reduceBEq, Int.reduceLE, Int.reduceLT, Int.reduceToNat, Int.reduceNeg, Int.reduceEq, axt, ftK, pickP, AScope, AAll, pickQ, ftQ, inHeap, RT, Sl3.cells, tys]
            exact ⟨hx2, s4, s9, by rw [if_neg (by omega)]; exact g1, by rw [if_neg (by omega)]; exact g2, _, rfl, .inl rfl⟩
          · simp (maxSteps := 400000) (dsimp := false) only [s9, s10, s11, y0, y1, axs, AThen, ABlock, dstsOk, AStep, callsF, AWant, aop, AS.ev, AS.put, upd, AS.bound, abin, aint, aload, astore, cellsAt, AV.cells, alen, elems, AV.int?, FPost, aresL, ares1, pack, afill, splice, Value.oneCell', Nat.reduceLT, Nat.reduceLeDiff, Nat.reduceEqDiff, Nat.reduceAdd, Nat.reduceMul, Nat.reduceSub, Nat.reduceBEq, Int.reduceLE, Int.reduceLT, Int.reduceToNat, Int.reduceNeg, Int.reduceEq, axt, ftK, pickP, AScope, AAll, pickQ, ftQ, inHeap, RT, Sl3.cells, tys]
            refine ADraw.planR [5] [(0, true), (1, true), (2, true), (3, true), (4, true), (5, true), (6, true)] [(0, false), (0, false), (0, false), (0, false), (0, false), (0, true), (0, false)] mixed (by kernel_rfl) (by kernel_rfl) ?_
            simp (maxSteps := 400000) (dsimp := false) only [s9, s10, s11, g2, g3, y0, y1, hgj, axs, AThen, ABlock, dstsOk, AStep, callsF, AWant, aop, AS.ev, AS.put, upd, AS.bound, abin, aint, aload, astore, cellsAt, AV.cells, alen, elems, AV.int?, FPost, aresL, ares1, pack, afill, splice, Value.oneCell', Nat.reduceLT, Nat.reduceLeDiff, Nat.reduceEqDiff, Nat.reduceAdd, Nat.reduceMul, Nat.reduceSub, Nat.reduceBEq, Int.reduceLE, Int.reduceLT, Int.reduceToNat, Int.reduceNeg, Int.reduceEq, axt, ftK, pickP, AScope, AAll, pickQ, ftQ, inHeap, RT, Sl3.cells, tys]
            refine ASoloK.strict rfl rfl (hlay) (by simp only [SeesL, s10, g3, s11, w6, axs, axt, AS.ev, AS.put, upd, inHeap, Nat.reduceLT, Nat.reduceEqDiff, Nat.reduceAdd, Nat.reduceBEq, RT, Sl3.cells]; repeat' (first | exact True.intro | exact Sees.sc | exact Sees.none | ((with_reducible refine Sees.same ?_) <;> simp [noIds, noIdsL, noIdsE, noIdsE_U, noIdsE_UU, noIdsE_TL] <;> fail) | (refine Live.sees ?_ ?_ <;> first | assumption | (simp [noIdsE_U, noIdsE_UU, noIdsE_TL] <;> fail)) | (refine Sees.obj ?_ ?_ ?_ <;> first | exact ⟨_, _, by assumption, rfl⟩ | (simp [U_len, UU_len, TL_len] <;> fail) | (simp [noIdsE_U, noIdsE_UU, noIdsE_TL] <;> fail) | (simp [U, UU, upd] <;> fail) | (simp [U, UU, upd, neS, *] <;> fail)) | (refine Sees.of_seen 3 ?_ <;> simp [seen, upd, noIdsE, noIdsL, noIds, U, UU, Nat.add_assoc] <;> fail) | refine Sees.agg ?_ | refine And.intro ?_ ?_ | simp only [SeesL])) ?_; simp (maxSteps := 400000) (dsimp := false) only [s10, g3, s11, w6, axs, AThen, ABlock, dstsOk, AStep, callsF, AWant, aop, AS.ev, AS.put, upd, AS.bound, abin, aint, aload, astore, cellsAt, AV.cells, alen, elems, AV.int?, FPost, aresL, ares1, pack, afill, splice, Value.oneCell', Nat.reduceLT, Nat.reduceLeDiff, Nat.reduceEqDiff, Nat.reduceAdd, Nat.reduceMul, Nat.reduceSub, Nat.reduceBEq, Int.reduceLE, Int.reduceLT, Int.reduceToNat, Int.reduceNeg, Int.reduceEq, axt, ftK, pickP, AScope, AAll, pickQ, ftQ, inHeap, RT, Sl3.cells, tys]
            exact ⟨hx2, s4, s9, by rw [if_neg (by omega)]; exact g1, by rw [if_neg (by omega)]; exact g2, _, rfl, .inl rfl⟩
        · have hjm : j = m := by omega
          subst hjm
          have y1 : ¬ (j : Int) < (j : Int) := by omega
          simp (maxSteps := 400000) (dsimp := false) only [s4, s9, s10, s11, y1, g1, g3, axs, AThen, ABlock, dstsOk, AStep, callsF, AWant, aop, AS.ev, AS.put, upd, AS.bound, abin, aint, aload, astore, cellsAt, AV.cells, alen, elems, AV.int?, FPost, aresL, ares1, pack, afill, splice, Value.oneCell', Nat.reduceLT, Nat.reduceLeDiff, Nat.reduceEqDiff, Nat.reduceAdd, Nat.reduceMul, Nat.reduceSub, Nat.reduceBEq, Int.reduceLE, Int.reduceLT, Int.reduceToNat, Int.reduceNeg, Int.reduceEq, axt, ftK, pickP, AScope, AAll, pickQ, ftQ, inHeap, RT, Sl3.cells, tys]
          rcases g4 with rfl | ⟨rfl, hid4⟩
          · refine ⟨_, rfl, ?_⟩; simp (maxSteps := 400000) (dsimp := false) only [SeesL, axs, AThen, ABlock, dstsOk, AStep, callsF, AWant, aop, AS.ev, AS.put, upd, AS.bound, abin, aint, aload, astore, cellsAt, AV.cells, alen, elems, AV.int?, FPost, aresL, ares1, pack, afill, splice, Value.oneCell', Nat.reduceLT, Nat.reduceLeDiff, Nat.reduceEqDiff, Nat.reduceAdd, Nat.reduceMul, Nat.reduceSub, Nat.reduceBEq, Int.reduceLE, Int.reduceLT, Int.reduceToNat, Int.reduceNeg, Int.reduceEq, axt, ftK, pickP, AScope, AAll, pickQ, ftQ, inHeap, RT, Sl3.cells, tys] <;> repeat' (first | exact True.intro | exact Sees.sc | exact Sees.none | ((with_reducible refine Sees.same ?_) <;> simp [noIds, noIdsL, noIdsE, noIdsE_U, noIdsE_UU, noIdsE_TL] <;> fail) | (refine Live.sees ?_ ?_ <;> first | assumption | (simp [noIdsE_U, noIdsE_UU, noIdsE_TL] <;> fail)) | (refine Sees.obj ?_ ?_ ?_ <;> first | exact ⟨_, _, by assumption, rfl⟩ | (simp [U_len, UU_len, TL_len] <;> fail) | (simp [noIdsE_U, noIdsE_UU, noIdsE_TL] <;> fail) | (simp [U, UU, upd, neS] <;> fail) | (simp [U, UU, upd, neS, *] <;> fail)) | refine Sees.agg ?_ | refine Sees.tup ?_ | refine And.intro ?_ ?_ | simp only [SeesL])
          · refine ⟨_, rfl, ?_⟩; simp (maxSteps := 400000) (dsimp := false) only [SeesL, axs, AThen, ABlock, dstsOk, AStep, callsF, AWant, aop, AS.ev, AS.put, upd, AS.bound, abin, aint, aload, astore, cellsAt, AV.cells, alen, elems, AV.int?, FPost, aresL, ares1, pack, afill, splice, Value.oneCell', Nat.reduceLT, Nat.reduceLeDiff, Nat.reduceEqDiff, Nat.reduceAdd, Nat.reduceMul, Nat.reduceSub, Nat.reduceBEq, Int.reduceLE, Int.reduceLT, Int.reduceToNat, Int.reduceNeg, Int.reduceEq, axt, ftK, pickP, AScope, AAll, pickQ, ftQ, inHeap, RT, Sl3.cells, tys] <;> repeat' (first | exact True.intro | exact Sees.sc | exact Sees.none | ((with_reducible refine Sees.same ?_) <;> simp [noIds, noIdsL, noIdsE, noIdsE_U, noIdsE_UU, noIdsE_TL] <;> fail) | (refine Live.sees ?_ ?_ <;> first | assumption | (simp [noIdsE_U, noIdsE_UU, noIdsE_TL] <;> fail)) | (refine Sees.obj ?_ ?_ ?_ <;> first | exact ⟨_, _, by assumption, rfl⟩ | (simp [U_len, UU_len, TL_len] <;> fail) | (simp [noIdsE_U, noIdsE_UU, noIdsE_TL] <;> fail) | (simp [U, UU, upd, neS] <;> fail) | (simp [U, UU, upd, neS, *] <;> fail)) | refine Sees.agg ?_ | refine Sees.tup ?_ | refine And.intro ?_ ?_ | simp only [SeesL])
end Go.Al
