/- Slots that are taken and freed: the laws of acts, and of slots that are apart, answer true. Conditions: the numbers fit their kinds. -/
import Derived.Test.YtolokbbhkjjodaaAn11
set_option linter.unusedVariables false
set_option linter.unusedSimpArgs false
set_option maxRecDepth 20000
set_option maxHeartbeats 1600000
-- axs, AThen, ABlock, dstsOk, AStep, callsF, AWant, aop, AS.ev, AS.put, upd, AS.bound, abin, aint, aload, astore, cellsAt, AV.cells, alen, elems, AV.int?, FPost, aresL, ares1, pack, afill, splice, Value.oneCell', Nat.reduceLT, Nat.reduceLeDiff, Nat.reduceEqDiff, Nat.reduceAdd, Nat.reduceMul, Nat.reduceSub, Nat.reduceBEq, Int.reduceLE, Int.reduceLT, Int.reduceToNat, Int.reduceNeg, Int.reduceEq, axt, ftK, pickP, AScope, AAll, pickQ, ftQ, inHeap, RV, Nd.cells, tys: RV, Nd.cells
-- NOIDS: noIdsE_I32, noIdsE_ND, noIdsE_AA
-- LENS: I32_len, ND_len, AA_len
namespace Go.Al
open Go.Proofs
theorem law_ArenaActs (c : Int) (w : (Lit.int .u8 c).wf = true) (e : List (List Value)) (f : ∀ x ∈ e, FitK [some .u8, some .i32, some .u64, some .u64, some .i64, some .i64, some .i32, some .i32] x) : PCalls Try.prog 3 [.sc (.int .u8 c), .lst 8 (e.map fun e => e.map .sc)] (.sc (.bool true)) := by
  obtain ⟨l, hl, hf, _⟩ := rows_AA f
  obtain ⟨h0, h1⟩ := wfu8 w
  obtain ⟨k1, k2, w1, w2⟩ := size5 h0 h1
  rw [hl]
  refine PCalls.intro2 Try.func3 rfl rfl Try.ntmps3 Try.results3 (by simp) fun n => ?_; simp (maxSteps := 400000) (dsimp := false) only [axs, AThen, ABlock, dstsOk, AStep, callsF, AWant, aop, AS.ev, AS.put, upd, AS.bound, abin, aint, aload, astore, cellsAt, AV.cells, alen, elems, AV.int?, FPost, aresL, ares1, pack, afill, splice, Value.oneCell', Nat.reduceLT, Nat.reduceLeDiff, Nat.reduceEqDiff, Nat.reduceAdd, Nat.reduceMul, Nat.reduceSub, Nat.reduceBEq, Int.reduceLE, Int.reduceLT, Int.reduceToNat, Int.reduceNeg, Int.reduceEq, axt, ftK, pickP, AScope, AAll, pickQ, ftQ, inHeap, RV, Nd.cells, tys]
  refine ACallK.strict rfl (awake03) (by simp only [SeesL, AA_len, axs, axt, AS.ev, AS.put, upd, inHeap, Nat.reduceLT, Nat.reduceEqDiff, Nat.reduceAdd, Nat.reduceBEq, RV, Nd.cells]; repeat' (first | exact True.intro | exact Sees.sc | exact Sees.none | ((with_reducible refine Sees.same ?_) <;> simp [noIds, noIdsL, noIdsE, noIdsE_U, noIdsE_UU, noIdsE_I32, noIdsE_ND, noIdsE_AA] <;> fail) | (refine Live.sees ?_ ?_ <;> first | assumption | (simp [noIdsE_U, noIdsE_UU, noIdsE_I32, noIdsE_ND, noIdsE_AA] <;> fail)) | (refine Sees.obj ?_ ?_ ?_ <;> first | exact ⟨_, _, by assumption, rfl⟩ | (simp [U_len, UU_len, I32_len, ND_len, AA_len] <;> fail) | (simp [noIdsE_U, noIdsE_UU, noIdsE_I32, noIdsE_ND, noIdsE_AA] <;> fail) | (simp [U, UU, upd] <;> fail) | (simp [U, UU, upd, neS, *] <;> fail)) | (refine Sees.of_seen 3 ?_ <;> simp [seen, upd, noIdsE, noIdsL, noIds, U, UU, Nat.add_assoc] <;> fail) | refine Sees.agg ?_ | refine And.intro ?_ ?_ | simp only [SeesL])) ?_; simp (maxSteps := 400000) (dsimp := false) only [AA_len, axs, AThen, ABlock, dstsOk, AStep, callsF, AWant, aop, AS.ev, AS.put, upd, AS.bound, abin, aint, aload, astore, cellsAt, AV.cells, alen, elems, AV.int?, FPost, aresL, ares1, pack, afill, splice, Value.oneCell', Nat.reduceLT, Nat.reduceLeDiff, Nat.reduceEqDiff, Nat.reduceAdd, Nat.reduceMul, Nat.reduceSub, Nat.reduceBEq, Int.reduceLE, Int.reduceLT, Int.reduceToNat, Int.reduceNeg, Int.reduceEq, axt, ftK, pickP, AScope, AAll, pickQ, ftQ, inHeap, RV, Nd.cells, tys]
  by_cases h : l.length ≤ 40
  · have h' : ¬ (l.length : Int) > 40 := by omega
    simp (maxSteps := 400000) (dsimp := false) only [h', axs, AThen, ABlock, dstsOk, AStep, callsF, AWant, aop, AS.ev, AS.put, upd, AS.bound, abin, aint, aload, astore, cellsAt, AV.cells, alen, elems, AV.int?, FPost, aresL, ares1, pack, afill, splice, Value.oneCell', Nat.reduceLT, Nat.reduceLeDiff, Nat.reduceEqDiff, Nat.reduceAdd, Nat.reduceMul, Nat.reduceSub, Nat.reduceBEq, Int.reduceLE, Int.reduceLT, Int.reduceToNat, Int.reduceNeg, Int.reduceEq, axt, ftK, pickP, AScope, AAll, pickQ, ftQ, inHeap, RV, Nd.cells, tys]
    refine ACallK.heap _ rfl (cArRun c l h0 h1 (by omega) hf _ _) ?_
    rintro r H' n' ⟨a, sl, fv, rfl, hle, hkeep, hA, hown⟩
    obtain ⟨ok, le1, le2⟩ := raRun_ok k1 k2 l
    generalize raRun c l = R at *
    simp (maxSteps := 400000) (dsimp := false) only [axs, AThen, ABlock, dstsOk, AStep, callsF, AWant, aop, AS.ev, AS.put, upd, AS.bound, abin, aint, aload, astore, cellsAt, AV.cells, alen, elems, AV.int?, FPost, aresL, ares1, pack, afill, splice, Value.oneCell', Nat.reduceLT, Nat.reduceLeDiff, Nat.reduceEqDiff, Nat.reduceAdd, Nat.reduceMul, Nat.reduceSub, Nat.reduceBEq, Int.reduceLE, Int.reduceLT, Int.reduceToNat, Int.reduceNeg, Int.reduceEq, axt, ftK, pickP, AScope, AAll, pickQ, ftQ, inHeap, RV, Nd.cells, tys]
    have e0 := ok.e0
    have e1 := ok.e1
    refine ALoop.upto (R.len + 2).toNat (fun p t => t.t 5 = .sc (.bool true) ∧ t.t 6 = .ptr a 4 0 0 ∧ t.t 7 = .ptr n' 4 0 0 ∧ t.t 8 = .sc (.bool true) ∧ t.t 9 = .sc (.int .i64 ((p : Int) - 1)) ∧ n' < t.n ∧ t.H n' = some (.obj 28 4 [[.sc (.int .i64 R.len), .sc (.int .i64 R.ever), .lst 1 (I32 R.freed), .lst 6 (ND R.nodes)]] false) ∧ ArH t.H t.n a sl fv (arnOf R)) ⟨rfl, rfl, rfl, rfl, rfl, by show n' < n' + 1; omega, by simp [upd], ?_⟩ ?_
    · refine hA.keep (by show n' ≤ n' + 1; omega) (fun j hj ho => ?_)
      have : ¬ j = n' := by omega
      show upd _ _ _ j = _
      rw [upd_ne _ _ this, upd_ne _ _ this]
    · rintro p s hp hb ⟨e5, e6, e7, e8, e9, hlt, en, hA⟩
      have hwp : IntKind.i64.wrap ((p : Int) - 1 + 1) = ((p + 1 : Nat) : Int) - 1 := by rw [IntWalk.i64_in _ ⟨by omega, by omega⟩]; omega
      by_cases hc : (p : Int) - 1 ≤ R.len
      · have hw32 : IntKind.i32.wrap ((p : Int) - 1) = (p : Int) - 1 := IntWalk.i32_in _ ⟨by omega, by omega⟩
        have hi : I32ok ((p : Int) - 1) := ⟨by omega, by omega⟩
        have hfl := ra_free_len ok
        have hplt : p < (R.len + 2).toNat := by omega
        simp (maxSteps := 400000) (dsimp := false) only [e5, e6, e7, e8, e9, en, hc, axs, AThen, ABlock, dstsOk, AStep, callsF, AWant, aop, AS.ev, AS.put, upd, AS.bound, abin, aint, aload, astore, cellsAt, AV.cells, alen, elems, AV.int?, FPost, aresL, ares1, pack, afill, splice, Value.oneCell', Nat.reduceLT, Nat.reduceLeDiff, Nat.reduceEqDiff, Nat.reduceAdd, Nat.reduceMul, Nat.reduceSub, Nat.reduceBEq, Int.reduceLE, Int.reduceLT, Int.reduceToNat, Int.reduceNeg, Int.reduceEq, axt, ftK, pickP, AScope, AAll, pickQ, ftQ, inHeap, RV, Nd.cells, tys]
        refine ADraw.planQR [9] [3, 14] [(0, true), (1, true), (2, true), (4, true), (5, true), (6, true), (3, true), (7, true), (8, true), (9, true), (10, true), (11, true), (12, true), (13, true), (15, true), (16, true), (17, true), (14, true), (18, true), (19, true), (20, true)] [(0, 0), (0, 0), (0, 0), (1, 0), (1, 0), (1, 0), (0, 2), (0, 0), (0, 0), (0, 1), (0, 0), (0, 0), (0, 0), (0, 0), (1, 0), (1, 0), (1, 0), (0, 2), (0, 0), (0, 0), (0, 0)] mixed (by kernel_rfl) (by kernel_rfl) ?_
        simp (maxSteps := 400000) (dsimp := false) only [e5, e6, e7, e8, e9, en, hw32, axs, AThen, ABlock, dstsOk, AStep, callsF, AWant, aop, AS.ev, AS.put, upd, AS.bound, abin, aint, aload, astore, cellsAt, AV.cells, alen, elems, AV.int?, FPost, aresL, ares1, pack, afill, splice, Value.oneCell', Nat.reduceLT, Nat.reduceLeDiff, Nat.reduceEqDiff, Nat.reduceAdd, Nat.reduceMul, Nat.reduceSub, Nat.reduceBEq, Int.reduceLE, Int.reduceLT, Int.reduceToNat, Int.reduceNeg, Int.reduceEq, axt, ftK, pickP, AScope, AAll, pickQ, ftQ, inHeap, RV, Nd.cells, tys]
        generalize (p : Int) - 1 = i at *
        refine AQuietK.intro rfl rfl (cRAt hA ok i hi) (fun id hid => upd_ne _ _ (Nat.ne_of_lt hid)) ?_
        simp (maxSteps := 400000) (dsimp := false) only [e5, e6, e7, e8, e9, en, axs, AThen, ABlock, dstsOk, AStep, callsF, AWant, aop, AS.ev, AS.put, upd, AS.bound, abin, aint, aload, astore, cellsAt, AV.cells, alen, elems, AV.int?, FPost, aresL, ares1, pack, afill, splice, Value.oneCell', Nat.reduceLT, Nat.reduceLeDiff, Nat.reduceEqDiff, Nat.reduceAdd, Nat.reduceMul, Nat.reduceSub, Nat.reduceBEq, Int.reduceLE, Int.reduceLT, Int.reduceToNat, Int.reduceNeg, Int.reduceEq, axt, ftK, pickP, AScope, AAll, pickQ, ftQ, inHeap, RV, Nd.cells, tys]
        refine ACallP.pure rfl (rArAt R i hi ok (by omega)) ?_; simp (maxSteps := 400000) (dsimp := false) only [e5, e6, e7, e8, e9, axs, AThen, ABlock, dstsOk, AStep, callsF, AWant, aop, AS.ev, AS.put, upd, AS.bound, abin, aint, aload, astore, cellsAt, AV.cells, alen, elems, AV.int?, FPost, aresL, ares1, pack, afill, splice, Value.oneCell', Nat.reduceLT, Nat.reduceLeDiff, Nat.reduceEqDiff, Nat.reduceAdd, Nat.reduceMul, Nat.reduceSub, Nat.reduceBEq, Int.reduceLE, Int.reduceLT, Int.reduceToNat, Int.reduceNeg, Int.reduceEq, axt, ftK, pickP, AScope, AAll, pickQ, ftQ, inHeap, RV, Nd.cells, tys]
        refine ACallP.pure rfl (node03 (raAt R i)) ?_; simp (maxSteps := 400000) (dsimp := false) only [axs, AThen, ABlock, dstsOk, AStep, callsF, AWant, aop, AS.ev, AS.put, upd, AS.bound, abin, aint, aload, astore, cellsAt, AV.cells, alen, elems, AV.int?, FPost, aresL, ares1, pack, afill, splice, Value.oneCell', Nat.reduceLT, Nat.reduceLeDiff, Nat.reduceEqDiff, Nat.reduceAdd, Nat.reduceMul, Nat.reduceSub, Nat.reduceBEq, Int.reduceLE, Int.reduceLT, Int.reduceToNat, Int.reduceNeg, Int.reduceEq, axt, ftK, pickP, AScope, AAll, pickQ, ftQ, inHeap, RV, Nd.cells, tys]
        have hne : ¬ n' = s.n := by omega
        refine ASoloK.x rfl rfl (AStepX.neS [some .u64, some .u64, some .i64, some .i64, some .i32, some .i32] rfl rfl rfl rfl rfl (by kernel_rfl) rfl rfl rfl) ?_; simp (maxSteps := 400000) (dsimp := false) only [sameSc, sameV, e5, e6, e7, e8, e9, en, hne, hw32, axs, AThen, ABlock, dstsOk, AStep, callsF, AWant, aop, AS.ev, AS.put, upd, AS.bound, abin, aint, aload, astore, cellsAt, AV.cells, alen, elems, AV.int?, FPost, aresL, ares1, pack, afill, splice, Value.oneCell', Nat.reduceLT, Nat.reduceLeDiff, Nat.reduceEqDiff, Nat.reduceAdd, Nat.reduceMul, Nat.reduceSub, Nat.reduceBEq, Int.reduceLE, Int.reduceLT, Int.reduceToNat, Int.reduceNeg, Int.reduceEq, axt, ftK, pickP, AScope, AAll, pickQ, ftQ, inHeap, RV, Nd.cells, tys]
        refine AQuietK.intro rfl rfl (cRIs (R := R) (s := sl) (fv := fv) ?_ ok i hi) (fun _ _ => rfl) ?_
        · exact hA.new
        simp (maxSteps := 400000) (dsimp := false) only [e5, e6, e7, e8, e9, en, hne, hw32, axs, AThen, ABlock, dstsOk, AStep, callsF, AWant, aop, AS.ev, AS.put, upd, AS.bound, abin, aint, aload, astore, cellsAt, AV.cells, alen, elems, AV.int?, FPost, aresL, ares1, pack, afill, splice, Value.oneCell', Nat.reduceLT, Nat.reduceLeDiff, Nat.reduceEqDiff, Nat.reduceAdd, Nat.reduceMul, Nat.reduceSub, Nat.reduceBEq, Int.reduceLE, Int.reduceLT, Int.reduceToNat, Int.reduceNeg, Int.reduceEq, axt, ftK, pickP, AScope, AAll, pickQ, ftQ, inHeap, RV, Nd.cells, tys]
        refine ACallP.pure rfl (rArIs R i hi (by omega)) ?_; simp (maxSteps := 400000) (dsimp := false) only [e5, e6, e7, e8, e9, bne_self_eq_false, hwp, axs, AThen, ABlock, dstsOk, AStep, callsF, AWant, aop, AS.ev, AS.put, upd, AS.bound, abin, aint, aload, astore, cellsAt, AV.cells, alen, elems, AV.int?, FPost, aresL, ares1, pack, afill, splice, Value.oneCell', Nat.reduceLT, Nat.reduceLeDiff, Nat.reduceEqDiff, Nat.reduceAdd, Nat.reduceMul, Nat.reduceSub, Nat.reduceBEq, Int.reduceLE, Int.reduceLT, Int.reduceToNat, Int.reduceNeg, Int.reduceEq, axt, ftK, pickP, AScope, AAll, pickQ, ftQ, inHeap, RV, Nd.cells, tys]
        exact ⟨hplt, by omega, by rw [if_neg hne]; exact en, hA.new⟩
      · have hp2 : (p : Int) - 1 = R.len + 1 := by omega
        simp (maxSteps := 400000) (dsimp := false) only [e5, e6, e7, e8, e9, en, hc, axs, AThen, ABlock, dstsOk, AStep, callsF, AWant, aop, AS.ev, AS.put, upd, AS.bound, abin, aint, aload, astore, cellsAt, AV.cells, alen, elems, AV.int?, FPost, aresL, ares1, pack, afill, splice, Value.oneCell', Nat.reduceLT, Nat.reduceLeDiff, Nat.reduceEqDiff, Nat.reduceAdd, Nat.reduceMul, Nat.reduceSub, Nat.reduceBEq, Int.reduceLE, Int.reduceLT, Int.reduceToNat, Int.reduceNeg, Int.reduceEq, axt, ftK, pickP, AScope, AAll, pickQ, ftQ, inHeap, RV, Nd.cells, tys]
        exact ⟨_, rfl, Sees.sc⟩
  · have h' : (l.length : Int) > 40 := by omega
    simp (maxSteps := 400000) (dsimp := false) only [h', axs, AThen, ABlock, dstsOk, AStep, callsF, AWant, aop, AS.ev, AS.put, upd, AS.bound, abin, aint, aload, astore, cellsAt, AV.cells, alen, elems, AV.int?, FPost, aresL, ares1, pack, afill, splice, Value.oneCell', Nat.reduceLT, Nat.reduceLeDiff, Nat.reduceEqDiff, Nat.reduceAdd, Nat.reduceMul, Nat.reduceSub, Nat.reduceBEq, Int.reduceLE, Int.reduceLT, Int.reduceToNat, Int.reduceNeg, Int.reduceEq, axt, ftK, pickP, AScope, AAll, pickQ, ftQ, inHeap, RV, Nd.cells, tys]
    exact ⟨_, rfl, Sees.sc⟩
theorem raSet_at {R : RA} (ok : RaOk R) {i : Int} (hi : raIs R i = true) (x : Nd) (k : Int) : raAt (raSet R i x).1 k = if k = i then x else raAt R k := by
  have hs : raSet R i x = (⟨R.len, R.ever, R.freed, R.nodes.set i.toNat x⟩, true) := if_pos hi
  have hk : ∀ k, raIs ⟨R.len, R.ever, R.freed, R.nodes.set i.toNat x⟩ k = raIs R k := fun k => rfl
  obtain ⟨g0, g1, _⟩ := ra_rng ok hi
  have hlt : i.toNat < R.nodes.length := by rw [ok.nd]; omega
  rw [hs]
  unfold raAt
  rw [hk]
  by_cases e : k = i
  · subst e
    rw [if_pos hi, if_pos rfl]
    simp [List.getD_eq_getElem?_getD, hlt]
  · rw [if_neg e]
    by_cases hr : raIs R k = true
    · rw [if_pos hr, if_pos hr]
      obtain ⟨q0, q1, _⟩ := ra_rng ok hr
      have : ¬ i.toNat = k.toNat := by omega
      simp [List.getD_eq_getElem?_getD, List.getElem?_set, this]
    · rw [if_neg hr, if_neg hr]
theorem raAlloc_rng {R : RA} (ok : RaOk R) : 0 < (raAlloc R).2 ∧ (raAlloc R).2 ≤ R.ever + 1 ∧ ∀ k, k ≠ (raAlloc R).2 → raAt (raAlloc R).1 k = raAt R k := by
  have e0 := ok.e0
  unfold raAlloc
  by_cases hf : R.freed = []
  · rw [if_neg (by simp [hf])]
    refine ⟨by show 0 < R.ever + 1; omega, Int.le_refl _, fun k hk => ?_⟩
    have hk : k ≠ R.ever + 1 := hk
    generalize (if R.ever + 1 ≥ R.len then 2 * R.len else R.len) = L
    have h1 : raIs ⟨L, R.ever + 1, [], R.nodes ++ [nd0]⟩ k = raIs R k := by
      unfold raIs
      have hb : decide (k ≤ R.ever + 1) = decide (k ≤ R.ever) := by rw [decide_eq_decide]; omega
      simp only [hb, hf]
    unfold raAt
    rw [h1]
    by_cases hr : raIs R k = true
    · rw [if_pos hr, if_pos hr]
      obtain ⟨q0, q1, _⟩ := ra_rng ok hr
      have : k.toNat < R.nodes.length := by rw [ok.nd]; omega
      simp [List.getD_eq_getElem?_getD, List.getElem?_append_left this]
    · rw [if_neg hr, if_neg hr]
  · rw [if_pos hf]
    have hsp := split_last hf
    have hm := List.mem_of_getElem? (lastI_get hf)
    obtain ⟨q0, q1⟩ := ok.fr _ hm
    have hd := ok.dup
    rw [hsp, List.nodup_append] at hd
    have hok : RaOk ⟨R.len, R.ever, R.freed.take (R.freed.length - 1), R.nodes⟩ := ⟨ok.e0, ok.e1, ok.nd, fun i hi => ok.fr i (List.mem_of_mem_take hi), hd.1⟩
    have hnot : lastI R.freed ∉ R.freed.take (R.freed.length - 1) := fun hc => hd.2.2 _ hc _ (by simp) rfl
    have his : raIs ⟨R.len, R.ever, R.freed.take (R.freed.length - 1), R.nodes⟩ (lastI R.freed) = true := ra_of q0 q1 hnot
    refine ⟨q0, by show lastI R.freed ≤ _; omega, fun k hk => ?_⟩
    have hk : k ≠ lastI R.freed := hk
    show raAt (raSet ⟨R.len, R.ever, R.freed.take (R.freed.length - 1), R.nodes⟩ (lastI R.freed) nd0).1 k = _
    rw [raSet_at hok his, if_neg hk]
    have h1 : raIs ⟨R.len, R.ever, R.freed.take (R.freed.length - 1), R.nodes⟩ k = raIs R k := by
      unfold raIs
      congr 2
      rw [decide_eq_decide]
      conv => rhs; rw [hsp]
      simp [hk]
    unfold raAt
    rw [h1]
theorem law_ArenaApart (c : Int) (w : (Lit.int .u8 c).wf = true) (e : List (List Value)) (f : ∀ x ∈ e, FitK [some .u8, some .i32, some .u64, some .u64, some .i64, some .i64, some .i32, some .i32] x) (x : List Value) (fx : FitK [some .u64, some .u64, some .i64, some .i64, some .i32, some .i32] x) : PCalls Try.prog 5 [.sc (.int .u8 c), .lst 8 (e.map fun e => e.map .sc), .agg (x.map .sc)] (.sc (.bool true)) := by
  obtain ⟨l, hl, hf, _⟩ := rows_AA f
  obtain ⟨y, hy⟩ := node_of fx
  obtain ⟨h0, h1⟩ := wfu8 w
  obtain ⟨k1, k2, w1, w2⟩ := size5 h0 h1
  rw [hl, hy]
  refine PCalls.intro2 Try.func5 rfl rfl Try.ntmps5 Try.results5 (by simp) fun n => ?_; simp (maxSteps := 400000) (dsimp := false) only [axs, AThen, ABlock, dstsOk, AStep, callsF, AWant, aop, AS.ev, AS.put, upd, AS.bound, abin, aint, aload, astore, cellsAt, AV.cells, alen, elems, AV.int?, FPost, aresL, ares1, pack, afill, splice, Value.oneCell', Nat.reduceLT, Nat.reduceLeDiff, Nat.reduceEqDiff, Nat.reduceAdd, Nat.reduceMul, Nat.reduceSub, Nat.reduceBEq, Int.reduceLE, Int.reduceLT, Int.reduceToNat, Int.reduceNeg, Int.reduceEq, axt, ftK, pickP, AScope, AAll, pickQ, ftQ, inHeap, RV, Nd.cells, tys]
  refine ACallK.strict rfl (awake03) (by simp only [SeesL, AA_len, axs, axt, AS.ev, AS.put, upd, inHeap, Nat.reduceLT, Nat.reduceEqDiff, Nat.reduceAdd, Nat.reduceBEq, RV, Nd.cells]; repeat' (first | exact True.intro | exact Sees.sc | exact Sees.none | ((with_reducible refine Sees.same ?_) <;> simp [noIds, noIdsL, noIdsE, noIdsE_U, noIdsE_UU, noIdsE_I32, noIdsE_ND, noIdsE_AA] <;> fail) | (refine Live.sees ?_ ?_ <;> first | assumption | (simp [noIdsE_U, noIdsE_UU, noIdsE_I32, noIdsE_ND, noIdsE_AA] <;> fail)) | (refine Sees.obj ?_ ?_ ?_ <;> first | exact ⟨_, _, by assumption, rfl⟩ | (simp [U_len, UU_len, I32_len, ND_len, AA_len] <;> fail) | (simp [noIdsE_U, noIdsE_UU, noIdsE_I32, noIdsE_ND, noIdsE_AA] <;> fail) | (simp [U, UU, upd] <;> fail) | (simp [U, UU, upd, neS, *] <;> fail)) | (refine Sees.of_seen 3 ?_ <;> simp [seen, upd, noIdsE, noIdsL, noIds, U, UU, Nat.add_assoc] <;> fail) | refine Sees.agg ?_ | refine And.intro ?_ ?_ | simp only [SeesL])) ?_; simp (maxSteps := 400000) (dsimp := false) only [AA_len, axs, AThen, ABlock, dstsOk, AStep, callsF, AWant, aop, AS.ev, AS.put, upd, AS.bound, abin, aint, aload, astore, cellsAt, AV.cells, alen, elems, AV.int?, FPost, aresL, ares1, pack, afill, splice, Value.oneCell', Nat.reduceLT, Nat.reduceLeDiff, Nat.reduceEqDiff, Nat.reduceAdd, Nat.reduceMul, Nat.reduceSub, Nat.reduceBEq, Int.reduceLE, Int.reduceLT, Int.reduceToNat, Int.reduceNeg, Int.reduceEq, axt, ftK, pickP, AScope, AAll, pickQ, ftQ, inHeap, RV, Nd.cells, tys]
  by_cases h : l.length ≤ 40
  · have h' : ¬ (l.length : Int) > 40 := by omega
    simp (maxSteps := 400000) (dsimp := false) only [h', axs, AThen, ABlock, dstsOk, AStep, callsF, AWant, aop, AS.ev, AS.put, upd, AS.bound, abin, aint, aload, astore, cellsAt, AV.cells, alen, elems, AV.int?, FPost, aresL, ares1, pack, afill, splice, Value.oneCell', Nat.reduceLT, Nat.reduceLeDiff, Nat.reduceEqDiff, Nat.reduceAdd, Nat.reduceMul, Nat.reduceSub, Nat.reduceBEq, Int.reduceLE, Int.reduceLT, Int.reduceToNat, Int.reduceNeg, Int.reduceEq, axt, ftK, pickP, AScope, AAll, pickQ, ftQ, inHeap, RV, Nd.cells, tys]
    refine ACallK.heap _ rfl (cArRun c l h0 h1 (by omega) hf _ _) ?_
    rintro r H' n' ⟨a, sl, fv, rfl, hle, hkeep, hA, hown⟩
    have hle : n + 1 ≤ n' := hle
    have hkn : H' n = some (.obj 36 6 [[.sc (.int .u64 y.key), .sc (.int .u64 y.val), .sc (.int .i64 y.flag), .sc (.int .i64 y.tag), .sc (.int .i32 y.prev), .sc (.int .i32 y.next)]] false) := (hkeep n (by show n < n + 1; omega)).trans (by show upd _ _ _ n = _; rw [upd_same])
    have hown : ∀ j, ArOwn a sl fv j → n + 1 ≤ j := hown
    clear hkeep
    obtain ⟨ok, le1, le2⟩ := raRun_ok k1 k2 l
    generalize raRun c l = R at *
    have hfl := ra_free_len ok
    have e0 := ok.e0
    have e1 := ok.e1
    obtain ⟨_, ok1, u1, u2, u3⟩ := arAlloc_of ok
    obtain ⟨u4, u5, u6⟩ := raAlloc_rng ok
    have hAA : ArH (upd (upd H' n' (some (.obj 28 4 [[.sc (.int .i64 0), .sc (.int .i64 0), .sc (.slice none 0 0), .sc (.slice none 0 0)]] false))) n' (some (.obj 28 4 [[.sc (.int .i64 R.len), .sc (.int .i64 R.ever), .lst 1 (I32 R.freed), .lst 6 (ND R.nodes)]] false))) (n' + 1) a sl fv (arnOf R) := by
      rw [upd_upd]; exact hA.new
    simp (maxSteps := 400000) (dsimp := false) only [hkn, axs, AThen, ABlock, dstsOk, AStep, callsF, AWant, aop, AS.ev, AS.put, upd, AS.bound, abin, aint, aload, astore, cellsAt, AV.cells, alen, elems, AV.int?, FPost, aresL, ares1, pack, afill, splice, Value.oneCell', Nat.reduceLT, Nat.reduceLeDiff, Nat.reduceEqDiff, Nat.reduceAdd, Nat.reduceMul, Nat.reduceSub, Nat.reduceBEq, Int.reduceLE, Int.reduceLT, Int.reduceToNat, Int.reduceNeg, Int.reduceEq, axt, ftK, pickP, AScope, AAll, pickQ, ftQ, inHeap, RV, Nd.cells, tys]
    refine ACallK.heap _ rfl (cRAlloc hAA ok (by omega)) ?_
    rintro r H1 n1 ⟨rfl, hle1, hkeep1, s1, fv1, hA1, hown1⟩
    have hle1 : n' + 1 ≤ n1 := hle1
    have eb : H1 n' = some (.obj 28 4 [[.sc (.int .i64 R.len), .sc (.int .i64 R.ever), .lst 1 (I32 R.freed), .lst 6 (ND R.nodes)]] false) := (hkeep1 n' (by show n' < n' + 1; omega) (fun ho => by have := hA.own_lt ho; omega)).trans (by show upd _ _ _ n' = _; rw [upd_same])
    have en : H1 n = some (.obj 36 6 [[.sc (.int .u64 y.key), .sc (.int .u64 y.val), .sc (.int .i64 y.flag), .sc (.int .i64 y.tag), .sc (.int .i32 y.prev), .sc (.int .i32 y.next)]] false) := (hkeep1 n (by show n < n' + 1; omega) (fun ho => by have := hown _ ho; omega)).trans (by show upd _ _ _ n = _; rw [upd_ne _ _ (by omega), upd_ne _ _ (by omega)]; exact hkn)
    have hown1 : ∀ j, ArOwn a s1 fv1 j → n + 1 ≤ j ∧ j ≠ n' := by
      intro j ho
      rcases hown1 j ho with h | h
      · have := hown j h
        have := hA.own_lt h
        exact ⟨by omega, by omega⟩
      · have h : n' + 1 ≤ j := h
        exact ⟨by omega, by omega⟩
    clear hkeep1
    have hset := raSet_at ok1 u2 y
    have hst2 : (raSet (raAlloc R).1 (raAlloc R).2 y).2 = true := by unfold raSet; rw [if_pos u2]
    have ok2 : RaOk (raSet (raAlloc R).1 (raAlloc R).2 y).1 := (arSet_of ok1 _ y).2
    have hi : I32ok (raAlloc R).2 := ⟨by omega, by omega⟩
    have hA2 := hA1.new (x := some (.obj 33 6 [(raAt (raAlloc R).1 (raAlloc R).2).cells] false))
    have hpos : (raAlloc R).2 > 0 := u4
    have hne1 : ¬ n' = n1 ∧ ¬ n1 = n' ∧ ¬ n = n1 ∧ ¬ n1 = n ∧ ¬ n' = n1 + 1 ∧ ¬ n1 + 1 = n' ∧ ¬ n = n1 + 1 ∧ ¬ n1 + 1 = n := by and_intros <;> omega
    simp (maxSteps := 400000) (dsimp := false) only [axs, AThen, ABlock, dstsOk, AStep, callsF, AWant, aop, AS.ev, AS.put, upd, AS.bound, abin, aint, aload, astore, cellsAt, AV.cells, alen, elems, AV.int?, FPost, aresL, ares1, pack, afill, splice, Value.oneCell', Nat.reduceLT, Nat.reduceLeDiff, Nat.reduceEqDiff, Nat.reduceAdd, Nat.reduceMul, Nat.reduceSub, Nat.reduceBEq, Int.reduceLE, Int.reduceLT, Int.reduceToNat, Int.reduceNeg, Int.reduceEq, axt, ftK, pickP, AScope, AAll, pickQ, ftQ, inHeap, RV, Nd.cells, tys]
    refine ACallK.heap _ rfl (cRAt hA1 ok1 _ hi) ?_; rintro r' H' n' ⟨rfl, eH, en⟩; obtain rfl := eH.symm; obtain rfl := en.symm; clear eH en; simp (maxSteps := 400000) (dsimp := false) only [u3, nd0, axs, AThen, ABlock, dstsOk, AStep, callsF, AWant, aop, AS.ev, AS.put, upd, AS.bound, abin, aint, aload, astore, cellsAt, AV.cells, alen, elems, AV.int?, FPost, aresL, ares1, pack, afill, splice, Value.oneCell', Nat.reduceLT, Nat.reduceLeDiff, Nat.reduceEqDiff, Nat.reduceAdd, Nat.reduceMul, Nat.reduceSub, Nat.reduceBEq, Int.reduceLE, Int.reduceLT, Int.reduceToNat, Int.reduceNeg, Int.reduceEq, axt, ftK, pickP, AScope, AAll, pickQ, ftQ, inHeap, RV, Nd.cells, tys]
    refine AStepX.eqS [some .u64, some .u64, some .i64, some .i64, some .i32, some .i32] rfl rfl rfl rfl rfl (by kernel_rfl) rfl rfl ?_; simp (maxSteps := 400000) (dsimp := false) only [sameSc, sameV, hpos, eb, en, hne1, axs, AThen, ABlock, dstsOk, AStep, callsF, AWant, aop, AS.ev, AS.put, upd, AS.bound, abin, aint, aload, astore, cellsAt, AV.cells, alen, elems, AV.int?, FPost, aresL, ares1, pack, afill, splice, Value.oneCell', Nat.reduceLT, Nat.reduceLeDiff, Nat.reduceEqDiff, Nat.reduceAdd, Nat.reduceMul, Nat.reduceSub, Nat.reduceBEq, Int.reduceLE, Int.reduceLT, Int.reduceToNat, Int.reduceNeg, Int.reduceEq, axt, ftK, pickP, AScope, AAll, pickQ, ftQ, inHeap, RV, Nd.cells, tys]
    refine ACallK.strict rfl (rArIs R (raAlloc R).2 hi (by omega)) (by simp only [SeesL, u1, eb, en, hne1, axs, axt, AS.ev, AS.put, upd, inHeap, Nat.reduceLT, Nat.reduceEqDiff, Nat.reduceAdd, Nat.reduceBEq, RV, Nd.cells]; repeat' (first | exact True.intro | exact Sees.sc | exact Sees.none | ((with_reducible refine Sees.same ?_) <;> simp [noIds, noIdsL, noIdsE, noIdsE_U, noIdsE_UU, noIdsE_I32, noIdsE_ND, noIdsE_AA] <;> fail) | (refine Live.sees ?_ ?_ <;> first | assumption | (simp [noIdsE_U, noIdsE_UU, noIdsE_I32, noIdsE_ND, noIdsE_AA] <;> fail)) | (refine Sees.obj ?_ ?_ ?_ <;> first | exact ⟨_, _, by assumption, rfl⟩ | (simp [U_len, UU_len, I32_len, ND_len, AA_len] <;> fail) | (simp [noIdsE_U, noIdsE_UU, noIdsE_I32, noIdsE_ND, noIdsE_AA] <;> fail) | (simp [U, UU, upd] <;> fail) | (simp [U, UU, upd, neS, *] <;> fail)) | (refine Sees.of_seen 3 ?_ <;> simp [seen, upd, noIdsE, noIdsL, noIds, U, UU, Nat.add_assoc] <;> fail) | refine Sees.agg ?_ | refine And.intro ?_ ?_ | simp only [SeesL])) ?_; simp (maxSteps := 400000) (dsimp := false) only [u1, eb, en, hne1, axs, AThen, ABlock, dstsOk, AStep, callsF, AWant, aop, AS.ev, AS.put, upd, AS.bound, abin, aint, aload, astore, cellsAt, AV.cells, alen, elems, AV.int?, FPost, aresL, ares1, pack, afill, splice, Value.oneCell', Nat.reduceLT, Nat.reduceLeDiff, Nat.reduceEqDiff, Nat.reduceAdd, Nat.reduceMul, Nat.reduceSub, Nat.reduceBEq, Int.reduceLE, Int.reduceLT, Int.reduceToNat, Int.reduceNeg, Int.reduceEq, axt, ftK, pickP, AScope, AAll, pickQ, ftQ, inHeap, RV, Nd.cells, tys]
    refine ACallK.strict rfl (node03 y) (by simp only [SeesL, eb, en, hne1, axs, axt, AS.ev, AS.put, upd, inHeap, Nat.reduceLT, Nat.reduceEqDiff, Nat.reduceAdd, Nat.reduceBEq, RV, Nd.cells]; repeat' (first | exact True.intro | exact Sees.sc | exact Sees.none | ((with_reducible refine Sees.same ?_) <;> simp [noIds, noIdsL, noIdsE, noIdsE_U, noIdsE_UU, noIdsE_I32, noIdsE_ND, noIdsE_AA] <;> fail) | (refine Live.sees ?_ ?_ <;> first | assumption | (simp [noIdsE_U, noIdsE_UU, noIdsE_I32, noIdsE_ND, noIdsE_AA] <;> fail)) | (refine Sees.obj ?_ ?_ ?_ <;> first | exact ⟨_, _, by assumption, rfl⟩ | (simp [U_len, UU_len, I32_len, ND_len, AA_len] <;> fail) | (simp [noIdsE_U, noIdsE_UU, noIdsE_I32, noIdsE_ND, noIdsE_AA] <;> fail) | (simp [U, UU, upd] <;> fail) | (simp [U, UU, upd, neS, *] <;> fail)) | (refine Sees.of_seen 3 ?_ <;> simp [seen, upd, noIdsE, noIdsL, noIds, U, UU, Nat.add_assoc] <;> fail) | refine Sees.agg ?_ | refine And.intro ?_ ?_ | simp only [SeesL])) ?_; simp (maxSteps := 400000) (dsimp := false) only [eb, en, hne1, axs, AThen, ABlock, dstsOk, AStep, callsF, AWant, aop, AS.ev, AS.put, upd, AS.bound, abin, aint, aload, astore, cellsAt, AV.cells, alen, elems, AV.int?, FPost, aresL, ares1, pack, afill, splice, Value.oneCell', Nat.reduceLT, Nat.reduceLeDiff, Nat.reduceEqDiff, Nat.reduceAdd, Nat.reduceMul, Nat.reduceSub, Nat.reduceBEq, Int.reduceLE, Int.reduceLT, Int.reduceToNat, Int.reduceNeg, Int.reduceEq, axt, ftK, pickP, AScope, AAll, pickQ, ftQ, inHeap, RV, Nd.cells, tys]
    refine ACallK.heap _ rfl (cRSet hA1.new ok1 _ hi y) ?_; rintro r' H' n' ⟨rfl, eH, en⟩; obtain rfl := eH.symm; obtain rfl := en.symm; clear eH en; simp (maxSteps := 400000) (dsimp := false) only [axs, AThen, ABlock, dstsOk, AStep, callsF, AWant, aop, AS.ev, AS.put, upd, AS.bound, abin, aint, aload, astore, cellsAt, AV.cells, alen, elems, AV.int?, FPost, aresL, ares1, pack, afill, splice, Value.oneCell', Nat.reduceLT, Nat.reduceLeDiff, Nat.reduceEqDiff, Nat.reduceAdd, Nat.reduceMul, Nat.reduceSub, Nat.reduceBEq, Int.reduceLE, Int.reduceLT, Int.reduceToNat, Int.reduceNeg, Int.reduceEq, axt, ftK, pickP, AScope, AAll, pickQ, ftQ, inHeap, RV, Nd.cells, tys]
    have hA3 := hA1.new (x := some (.obj 33 6 [[.sc (.int .u64 0), .sc (.int .u64 0), .sc (.int .i64 0), .sc (.int .i64 0), .sc (.int .i32 0), .sc (.int .i32 0)]] false)) |>.setR ok1 (raAlloc R).2 y
    have hs1 := hown1 s1 (.inr (.inl rfl))
    have ebs : setH (upd H1 n1 (some (.obj 33 6 [[.sc (.int .u64 0), .sc (.int .u64 0), .sc (.int .i64 0), .sc (.int .i64 0), .sc (.int .i32 0), .sc (.int .i32 0)]] false))) (n1 + 1) s1 (arnOf (raSet (raAlloc R).1 (raAlloc R).2 y).1) y n' = some (.obj 28 4 [[.sc (.int .i64 R.len), .sc (.int .i64 R.ever), .lst 1 (I32 R.freed), .lst 6 (ND R.nodes)]] false) := by
      unfold setH
      rw [upd_ne _ _ (by omega), upd_ne _ _ (by omega), upd_ne _ _ (by omega)]; exact eb
    have ens : setH (upd H1 n1 (some (.obj 33 6 [[.sc (.int .u64 0), .sc (.int .u64 0), .sc (.int .i64 0), .sc (.int .i64 0), .sc (.int .i32 0), .sc (.int .i32 0)]] false))) (n1 + 1) s1 (arnOf (raSet (raAlloc R).1 (raAlloc R).2 y).1) y n = some (.obj 36 6 [[.sc (.int .u64 y.key), .sc (.int .u64 y.val), .sc (.int .i64 y.flag), .sc (.int .i64 y.tag), .sc (.int .i32 y.prev), .sc (.int .i32 y.next)]] false) := by
      unfold setH
      rw [upd_ne _ _ (by omega), upd_ne _ _ (by omega), upd_ne _ _ (by omega)]; exact en
    have hkk : ∀ k, k ≠ (raAlloc R).2 → raAt (raSet (raAlloc R).1 (raAlloc R).2 y).1 k = raAt R k := fun k hk => by rw [hset k, if_neg hk, u6 k hk]
    have hki : raAt (raSet (raAlloc R).1 (raAlloc R).2 y).1 (raAlloc R).2 = y := by rw [hset, if_pos rfl]
    rw [hst2]
    generalize raSet (raAlloc R).1 (raAlloc R).2 y = R2 at *
    generalize (raAlloc R).2 = i at *
    refine ALoop.upto R.len.toNat (fun p t => t.t 5 = .ptr n 6 0 0 ∧ t.t 7 = .sc (.bool true) ∧ t.t 8 = .ptr a 4 0 0 ∧ t.t 9 = .ptr n' 4 0 0 ∧ t.t 10 = .sc (.bool true) ∧ t.t 11 = .sc (.int .i32 i) ∧ t.t 12 = .sc (.bool true) ∧ t.t 13 = .sc (.bool true) ∧ t.t 14 = .sc (.int .i64 (p : Int)) ∧ n < n' ∧ n' < t.n ∧ t.H n' = some (.obj 28 4 [[.sc (.int .i64 R.len), .sc (.int .i64 R.ever), .lst 1 (I32 R.freed), .lst 6 (ND R.nodes)]] false) ∧ t.H n = some (.obj 36 6 [[.sc (.int .u64 y.key), .sc (.int .u64 y.val), .sc (.int .i64 y.flag), .sc (.int .i64 y.tag), .sc (.int .i32 y.prev), .sc (.int .i32 y.next)]] false) ∧ ArH t.H t.n a s1 fv1 (arnOf R2.1)) ⟨rfl, rfl, rfl, rfl, rfl, rfl, rfl, rfl, rfl, by omega, by show n' < n1 + 1 + 1; omega, ebs, ens, hA3⟩ ?_
    clear ebs ens hA3 hA1 hA2 hAA hA eb en hown1 hown hs1 hkn hne1
    rintro p s hp hb ⟨e5, e7, e8, e9, e10, e11, e12, e13, e14, hnn, hlt, eb, en, hA⟩
    have hwp : IntKind.i64.wrap ((p : Int) + 1) = ((p + 1 : Nat) : Int) := by rw [IntWalk.i64_in _ ⟨by omega, by omega⟩]; omega
    have hne : ¬ n' = s.n ∧ ¬ s.n = n' ∧ ¬ n = s.n ∧ ¬ s.n = n := by and_intros <;> omega
    by_cases hc : (p : Int) < R.len
    · have hw32 : IntKind.i32.wrap (p : Int) = (p : Int) := IntWalk.i32_in _ ⟨by omega, by omega⟩
      have hip : I32ok (p : Int) := ⟨by omega, by omega⟩
      have hplt : p < R.len.toNat := by omega
      by_cases hk : (p : Int) = i
      · have hk1 : ((p : Int) = i) = True := eq_true hk
        simp (maxSteps := 400000) (dsimp := false) only [e5, e7, e8, e9, e10, e11, e12, e13, e14, eb, en, hc, axs, AThen, ABlock, dstsOk, AStep, callsF, AWant, aop, AS.ev, AS.put, upd, AS.bound, abin, aint, aload, astore, cellsAt, AV.cells, alen, elems, AV.int?, FPost, aresL, ares1, pack, afill, splice, Value.oneCell', Nat.reduceLT, Nat.reduceLeDiff, Nat.reduceEqDiff, Nat.reduceAdd, Nat.reduceMul, Nat.reduceSub, Nat.reduceBEq, Int.reduceLE, Int.reduceLT, Int.reduceToNat, Int.reduceNeg, Int.reduceEq, axt, ftK, pickP, AScope, AAll, pickQ, ftQ, inHeap, RV, Nd.cells, tys]
        refine ADraw.planQR [14] [8] [(0, true), (1, true), (2, true), (3, true), (4, true), (5, true), (6, true), (7, true), (9, true), (10, true), (11, true), (8, true), (12, true), (13, true), (14, true), (15, true)] [(0, 0), (0, 0), (0, 0), (0, 0), (0, 0), (0, 0), (0, 0), (0, 0), (1, 0), (1, 0), (1, 0), (0, 2), (0, 0), (0, 0), (0, 1), (0, 0)] mixed (by kernel_rfl) (by kernel_rfl) ?_
        simp (maxSteps := 400000) (dsimp := false) only [e5, e7, e8, e9, e10, e11, e12, e13, e14, eb, en, hw32, hk1, hwp, axs, AThen, ABlock, dstsOk, AStep, callsF, AWant, aop, AS.ev, AS.put, upd, AS.bound, abin, aint, aload, astore, cellsAt, AV.cells, alen, elems, AV.int?, FPost, aresL, ares1, pack, afill, splice, Value.oneCell', Nat.reduceLT, Nat.reduceLeDiff, Nat.reduceEqDiff, Nat.reduceAdd, Nat.reduceMul, Nat.reduceSub, Nat.reduceBEq, Int.reduceLE, Int.reduceLT, Int.reduceToNat, Int.reduceNeg, Int.reduceEq, axt, ftK, pickP, AScope, AAll, pickQ, ftQ, inHeap, RV, Nd.cells, tys]
        exact ⟨hplt, hnn, hlt, hA⟩
      · have hkr := hkk _ hk
        simp (maxSteps := 400000) (dsimp := false) only [e5, e7, e8, e9, e10, e11, e12, e13, e14, eb, en, hc, axs, AThen, ABlock, dstsOk, AStep, callsF, AWant, aop, AS.ev, AS.put, upd, AS.bound, abin, aint, aload, astore, cellsAt, AV.cells, alen, elems, AV.int?, FPost, aresL, ares1, pack, afill, splice, Value.oneCell', Nat.reduceLT, Nat.reduceLeDiff, Nat.reduceEqDiff, Nat.reduceAdd, Nat.reduceMul, Nat.reduceSub, Nat.reduceBEq, Int.reduceLE, Int.reduceLT, Int.reduceToNat, Int.reduceNeg, Int.reduceEq, axt, ftK, pickP, AScope, AAll, pickQ, ftQ, inHeap, RV, Nd.cells, tys]
        refine ADraw.planQR [14] [8] [(0, true), (1, true), (2, true), (3, true), (4, true), (5, true), (6, true), (7, true), (9, true), (10, true), (11, true), (8, true), (12, true), (13, true), (14, true), (15, true)] [(0, 0), (0, 0), (0, 0), (0, 0), (0, 0), (0, 0), (0, 0), (0, 0), (1, 0), (1, 0), (1, 0), (0, 2), (0, 0), (0, 0), (0, 1), (0, 0)] mixed (by kernel_rfl) (by kernel_rfl) ?_
        simp (maxSteps := 400000) (dsimp := false) only [e5, e7, e8, e9, e10, e11, e12, e13, e14, eb, en, hw32, hk, axs, AThen, ABlock, dstsOk, AStep, callsF, AWant, aop, AS.ev, AS.put, upd, AS.bound, abin, aint, aload, astore, cellsAt, AV.cells, alen, elems, AV.int?, FPost, aresL, ares1, pack, afill, splice, Value.oneCell', Nat.reduceLT, Nat.reduceLeDiff, Nat.reduceEqDiff, Nat.reduceAdd, Nat.reduceMul, Nat.reduceSub, Nat.reduceBEq, Int.reduceLE, Int.reduceLT, Int.reduceToNat, Int.reduceNeg, Int.reduceEq, axt, ftK, pickP, AScope, AAll, pickQ, ftQ, inHeap, RV, Nd.cells, tys]
        refine AQuietK.intro rfl rfl (cRAt hA ok2 _ hip) (fun id hid => upd_ne _ _ (Nat.ne_of_lt hid)) ?_
        simp (maxSteps := 400000) (dsimp := false) only [e5, e7, e8, e9, e10, e11, e12, e13, e14, eb, en, hkr, axs, AThen, ABlock, dstsOk, AStep, callsF, AWant, aop, AS.ev, AS.put, upd, AS.bound, abin, aint, aload, astore, cellsAt, AV.cells, alen, elems, AV.int?, FPost, aresL, ares1, pack, afill, splice, Value.oneCell', Nat.reduceLT, Nat.reduceLeDiff, Nat.reduceEqDiff, Nat.reduceAdd, Nat.reduceMul, Nat.reduceSub, Nat.reduceBEq, Int.reduceLE, Int.reduceLT, Int.reduceToNat, Int.reduceNeg, Int.reduceEq, axt, ftK, pickP, AScope, AAll, pickQ, ftQ, inHeap, RV, Nd.cells, tys]
        refine ACallP.pure rfl (rArAt R _ hip ok (by omega)) ?_; simp (maxSteps := 400000) (dsimp := false) only [e5, e7, e8, e9, e10, e11, e12, e13, e14, axs, AThen, ABlock, dstsOk, AStep, callsF, AWant, aop, AS.ev, AS.put, upd, AS.bound, abin, aint, aload, astore, cellsAt, AV.cells, alen, elems, AV.int?, FPost, aresL, ares1, pack, afill, splice, Value.oneCell', Nat.reduceLT, Nat.reduceLeDiff, Nat.reduceEqDiff, Nat.reduceAdd, Nat.reduceMul, Nat.reduceSub, Nat.reduceBEq, Int.reduceLE, Int.reduceLT, Int.reduceToNat, Int.reduceNeg, Int.reduceEq, axt, ftK, pickP, AScope, AAll, pickQ, ftQ, inHeap, RV, Nd.cells, tys]
        refine ACallP.pure rfl (node03 (raAt R p)) ?_; simp (maxSteps := 400000) (dsimp := false) only [axs, AThen, ABlock, dstsOk, AStep, callsF, AWant, aop, AS.ev, AS.put, upd, AS.bound, abin, aint, aload, astore, cellsAt, AV.cells, alen, elems, AV.int?, FPost, aresL, ares1, pack, afill, splice, Value.oneCell', Nat.reduceLT, Nat.reduceLeDiff, Nat.reduceEqDiff, Nat.reduceAdd, Nat.reduceMul, Nat.reduceSub, Nat.reduceBEq, Int.reduceLE, Int.reduceLT, Int.reduceToNat, Int.reduceNeg, Int.reduceEq, axt, ftK, pickP, AScope, AAll, pickQ, ftQ, inHeap, RV, Nd.cells, tys]
        refine ASoloK.x rfl rfl (AStepX.neS [some .u64, some .u64, some .i64, some .i64, some .i32, some .i32] rfl rfl rfl rfl rfl (by kernel_rfl) rfl rfl rfl) ?_; simp (maxSteps := 400000) (dsimp := false) only [sameSc, sameV, e5, e7, e8, e9, e10, e11, e12, e13, e14, hwp, axs, AThen, ABlock, dstsOk, AStep, callsF, AWant, aop, AS.ev, AS.put, upd, AS.bound, abin, aint, aload, astore, cellsAt, AV.cells, alen, elems, AV.int?, FPost, aresL, ares1, pack, afill, splice, Value.oneCell', Nat.reduceLT, Nat.reduceLeDiff, Nat.reduceEqDiff, Nat.reduceAdd, Nat.reduceMul, Nat.reduceSub, Nat.reduceBEq, Int.reduceLE, Int.reduceLT, Int.reduceToNat, Int.reduceNeg, Int.reduceEq, axt, ftK, pickP, AScope, AAll, pickQ, ftQ, inHeap, RV, Nd.cells, tys]
        refine ⟨hplt, hnn, by omega, ?_, ?_, hA.new⟩
        · rw [if_neg hne.1]; exact eb
        · rw [if_neg hne.2.2.1]; exact en
    · simp (maxSteps := 400000) (dsimp := false) only [e5, e7, e8, e9, e10, e11, e12, e13, e14, eb, en, hc, axs, AThen, ABlock, dstsOk, AStep, callsF, AWant, aop, AS.ev, AS.put, upd, AS.bound, abin, aint, aload, astore, cellsAt, AV.cells, alen, elems, AV.int?, FPost, aresL, ares1, pack, afill, splice, Value.oneCell', Nat.reduceLT, Nat.reduceLeDiff, Nat.reduceEqDiff, Nat.reduceAdd, Nat.reduceMul, Nat.reduceSub, Nat.reduceBEq, Int.reduceLE, Int.reduceLT, Int.reduceToNat, Int.reduceNeg, Int.reduceEq, axt, ftK, pickP, AScope, AAll, pickQ, ftQ, inHeap, RV, Nd.cells, tys]
      refine ADraw.planQR [16] [13] [(0, true), (1, true), (2, true), (3, true), (4, true), (5, true), (6, true), (7, true), (8, true), (9, true), (10, true), (11, true), (12, true), (14, true), (13, true), (15, true), (16, true), (17, true), (18, true)] [(0, 0), (0, 0), (0, 0), (0, 0), (0, 0), (0, 0), (0, 0), (0, 0), (0, 0), (0, 0), (0, 0), (0, 0), (0, 0), (1, 0), (0, 2), (0, 0), (0, 1), (0, 0), (0, 0)] mixed (by kernel_rfl) (by kernel_rfl) ?_
      simp (maxSteps := 400000) (dsimp := false) only [e5, e7, e8, e9, e10, e11, e12, e13, e14, eb, en, axs, AThen, ABlock, dstsOk, AStep, callsF, AWant, aop, AS.ev, AS.put, upd, AS.bound, abin, aint, aload, astore, cellsAt, AV.cells, alen, elems, AV.int?, FPost, aresL, ares1, pack, afill, splice, Value.oneCell', Nat.reduceLT, Nat.reduceLeDiff, Nat.reduceEqDiff, Nat.reduceAdd, Nat.reduceMul, Nat.reduceSub, Nat.reduceBEq, Int.reduceLE, Int.reduceLT, Int.reduceToNat, Int.reduceNeg, Int.reduceEq, axt, ftK, pickP, AScope, AAll, pickQ, ftQ, inHeap, RV, Nd.cells, tys]
      refine AQuietK.intro rfl rfl (cRAt hA ok2 _ hi) (fun id hid => upd_ne _ _ (Nat.ne_of_lt hid)) ?_
      simp (maxSteps := 400000) (dsimp := false) only [hki, e5, e7, e8, e9, e10, e11, e12, e13, e14, eb, en, axs, AThen, ABlock, dstsOk, AStep, callsF, AWant, aop, AS.ev, AS.put, upd, AS.bound, abin, aint, aload, astore, cellsAt, AV.cells, alen, elems, AV.int?, FPost, aresL, ares1, pack, afill, splice, Value.oneCell', Nat.reduceLT, Nat.reduceLeDiff, Nat.reduceEqDiff, Nat.reduceAdd, Nat.reduceMul, Nat.reduceSub, Nat.reduceBEq, Int.reduceLE, Int.reduceLT, Int.reduceToNat, Int.reduceNeg, Int.reduceEq, axt, ftK, pickP, AScope, AAll, pickQ, ftQ, inHeap, RV, Nd.cells, tys]
      refine ACallP.pure rfl (node03 y) ?_; simp (maxSteps := 400000) (dsimp := false) only [axs, AThen, ABlock, dstsOk, AStep, callsF, AWant, aop, AS.ev, AS.put, upd, AS.bound, abin, aint, aload, astore, cellsAt, AV.cells, alen, elems, AV.int?, FPost, aresL, ares1, pack, afill, splice, Value.oneCell', Nat.reduceLT, Nat.reduceLeDiff, Nat.reduceEqDiff, Nat.reduceAdd, Nat.reduceMul, Nat.reduceSub, Nat.reduceBEq, Int.reduceLE, Int.reduceLT, Int.reduceToNat, Int.reduceNeg, Int.reduceEq, axt, ftK, pickP, AScope, AAll, pickQ, ftQ, inHeap, RV, Nd.cells, tys]
      refine ASoloK.x rfl rfl (AStepX.eqS [some .u64, some .u64, some .i64, some .i64, some .i32, some .i32] rfl rfl rfl rfl rfl (by kernel_rfl) rfl rfl rfl) ?_; simp (maxSteps := 400000) (dsimp := false) only [sameSc, sameV, axs, AThen, ABlock, dstsOk, AStep, callsF, AWant, aop, AS.ev, AS.put, upd, AS.bound, abin, aint, aload, astore, cellsAt, AV.cells, alen, elems, AV.int?, FPost, aresL, ares1, pack, afill, splice, Value.oneCell', Nat.reduceLT, Nat.reduceLeDiff, Nat.reduceEqDiff, Nat.reduceAdd, Nat.reduceMul, Nat.reduceSub, Nat.reduceBEq, Int.reduceLE, Int.reduceLT, Int.reduceToNat, Int.reduceNeg, Int.reduceEq, axt, ftK, pickP, AScope, AAll, pickQ, ftQ, inHeap, RV, Nd.cells, tys]
      exact ⟨_, rfl, Sees.sc⟩
  · have h' : (l.length : Int) > 40 := by omega
    simp (maxSteps := 400000) (dsimp := false) only [h', axs, AThen, ABlock, dstsOk, AStep, callsF, AWant, aop, AS.ev, AS.put, upd, AS.bound, abin, aint, aload, astore, cellsAt, AV.cells, alen, elems, AV.int?, FPost, aresL, ares1, pack, afill, splice, Value.oneCell', Nat.reduceLT, Nat.reduceLeDiff, Nat.reduceEqDiff, Nat.reduceAdd, Nat.reduceMul, Nat.reduceSub, Nat.reduceBEq, Int.reduceLE, Int.reduceLT, Int.reduceToNat, Int.reduceNeg, Int.reduceEq, axt, ftK, pickP, AScope, AAll, pickQ, ftQ, inHeap, RV, Nd.cells, tys]
    exact ⟨_, rfl, Sees.sc⟩
end Go.Al
