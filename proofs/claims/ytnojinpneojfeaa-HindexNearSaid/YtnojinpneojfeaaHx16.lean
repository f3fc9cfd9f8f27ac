/- Numbers by keys, in slots: the laws of the map and of nearness answer true. Conditions: the numbers fit their kinds. -/
import Derived.Test.YtnojinpneojfeaaHx15
set_option linter.unusedVariables false
set_option linter.unusedSimpArgs false
set_option maxRecDepth 20000
set_option maxHeartbeats 1600000
-- axs, AThen, ABlock, dstsOk, AStep, callsF, AWant, aop, AS.ev, AS.put, upd, AS.bound, abin, aint, aload, astore, cellsAt, AV.cells, alen, elems, AV.int?, FPost, aresL, ares1, pack, afill, splice, Value.oneCell', Nat.reduceLT, Nat.reduceLeDiff, Nat.reduceEqDiff, Nat.reduceAdd, Nat.reduceMul, Nat.reduceSub, Nat.reduceBEq, Int.reduceLE, Int.reduceLT, Int.reduceToNat, Int.reduceNeg, Int.reduceEq, axt, ftK, pickP, AScope, AAll, pickQ, ftQ, inHeap, RT, Sl3.cells, tys: RT, Sl3.cells
-- NOIDS: noIdsE_TL, noIdsE_HA
-- LENS: TL_len, HA_len
namespace Go.Al
open Go.Proofs
/-- A key has a number, or has none. -/
def HasIs (T : Tb) (k : Int) (has : Bool) (v : Int) : Prop := (sl T (hF T k)).full = has ∧ (has = true → (sl T (hF T k)).n = v)
theorem hasIs_mem {T : Tb} (ok : HOk T) {k v : Int} (h : Mem T ⟨k, v, true⟩) : HasIs T k true v := by
  obtain ⟨_, r, hr, he⟩ := h
  have := ok.inv.found (hm_lt (by have := ok.len; omega) k) (ok.find k) hr (by rw [he]) (by rw [he])
  unfold HasIs
  rw [← this, he]
  exact ⟨rfl, fun _ => rfl⟩
theorem hasIs_no {T : Tb} (ok : HOk T) {k : Int} (h : ∀ t, Mem T t → t.key ≠ k) (v : Int) : HasIs T k false v := by
  refine ⟨?_, fun e => by cases e⟩
  cases e : (sl T (hF T k)).full with
  | false => rfl
  | true => exact absurd ((ok.there k).1 e).2 (h _ ((ok.there k).1 e).1)
theorem HasIs.mem {T : Tb} (ok : HOk T) {k v : Int} (h : HasIs T k true v) : Mem T ⟨k, v, true⟩ := by
  obtain ⟨m1, m2⟩ := (ok.there k).1 h.1
  have : sl T (hF T k) = ⟨k, v, true⟩ := by
    have h2 := h.2 rfl
    have h1 := h.1
    generalize sl T (hF T k) = s at *
    cases s
    simp only at h1 h2 m2
    subst h1; subst h2; subst m2
    rfl
  rw [← this]
  exact m1
theorem HasIs.act {T : Tb} (ok : HOk T) (hsm : T.length ≤ 524288) {k v : Int} {has : Bool} (h : HasIs T k has v) (x : HAct) (hx : x.Fits) :
    HasIs (hDo T x).1 k (if x.key = k then decide (x.kind.tmod 3 ≠ 2) else has) (if x.key = k then x.n else v) := by
  have ok2 := (hDo_ok ok hsm x hx).1
  by_cases h0 : x.kind.tmod 3 = 2
  · have hd : (hDo T x).1 = (hDel T x.key).1 := by unfold hDo; rw [if_pos h0]
    have hm := (del_all ok x.key).2.1
    rw [hd] at ok2 ⊢
    by_cases e : x.key = k
    · rw [if_pos e, if_pos e, decide_eq_false (by omega)]
      exact hasIs_no ok2 (fun t ht hk => ((hm t).1 ht).2 (by rw [hk, e])) _
    · rw [if_neg e, if_neg e]
      cases has with
      | true => exact hasIs_mem ok2 ((hm _).2 ⟨h.mem ok, fun hk => e hk.symm⟩)
      | false => exact hasIs_no ok2 (fun t ht hk => (ok.there k).2 h.1 t ((hm t).1 ht).1 hk) _
  · have hd : (hDo T x).1 = hPut T x.key x.n := by unfold hDo; rw [if_neg h0]
    have hm := (put_all ok hsm hx.key.1 hx.key.2 x.n).2.1
    rw [hd] at ok2 ⊢
    by_cases e : x.key = k
    · rw [if_pos e, if_pos e, decide_eq_true h0]
      exact hasIs_mem ok2 ((hm _).2 (.inl (by rw [e])))
    · rw [if_neg e, if_neg e]
      cases has with
      | true => exact hasIs_mem ok2 ((hm _).2 (.inr ⟨h.mem ok, fun hk => e hk.symm⟩))
      | false =>
        refine hasIs_no ok2 (fun t ht hk => ?_) _
        rcases (hm t).1 ht with ht | ⟨ht, _⟩
        · rw [ht] at hk; exact e hk
        · exact (ok.there k).2 h.1 t ht hk
theorem hDel_has (T : Tb) (k : Int) : (hDel T k).2 = (sl T (hF T k)).full := by
  unfold hDel
  cases h : (sl T (hF T k)).full with
  | true => rfl
  | false => rfl
theorem law_HindexMap (e : List (List Value)) (f : ∀ x ∈ e, FitK [some .u8, some .u64, some .i32] x) (k : Int) (w : (Lit.int .u64 k).wf = true) : PCalls Try.prog 5 [.lst 3 (e.map fun x => x.map .sc), .sc (.int .u64 k)] (.sc (.bool true)) := by
  obtain ⟨l, hl, hf, _⟩ := rows_HA f
  have hk : Key k := by
    simp [Lit.wf, IntKind.min, IntKind.max, IntKind.signed, IntKind.bits] at w
    exact ⟨w.1, by omega⟩
  rw [hl]
  refine PCalls.intro2 Try.func5 rfl rfl Try.ntmps5 Try.results5 (by simp) fun n => ?_; simp (maxSteps := 400000) (dsimp := false) only [axs, AThen, ABlock, dstsOk, AStep, callsF, AWant, aop, AS.ev, AS.put, upd, AS.bound, abin, aint, aload, astore, cellsAt, AV.cells, alen, elems, AV.int?, FPost, aresL, ares1, pack, afill, splice, Value.oneCell', Nat.reduceLT, Nat.reduceLeDiff, Nat.reduceEqDiff, Nat.reduceAdd, Nat.reduceMul, Nat.reduceSub, Nat.reduceBEq, Int.reduceLE, Int.reduceLT, Int.reduceToNat, Int.reduceNeg, Int.reduceEq, axt, ftK, pickP, AScope, AAll, pickQ, ftQ, inHeap, RT, Sl3.cells, tys]
  refine ACallK.strict rfl (f8) (by simp only [SeesL, HA_len, axs, axt, AS.ev, AS.put, upd, inHeap, Nat.reduceLT, Nat.reduceEqDiff, Nat.reduceAdd, Nat.reduceBEq, RT, Sl3.cells]; repeat' (first | exact True.intro | exact Sees.sc | exact Sees.none | ((with_reducible refine Sees.same ?_) <;> simp [noIds, noIdsL, noIdsE, noIdsE_U, noIdsE_UU, noIdsE_TL, noIdsE_HA] <;> fail) | (refine Live.sees ?_ ?_ <;> first | assumption | (simp [noIdsE_U, noIdsE_UU, noIdsE_TL, noIdsE_HA] <;> fail)) | (refine Sees.obj ?_ ?_ ?_ <;> first | exact ⟨_, _, by assumption, rfl⟩ | (simp [U_len, UU_len, TL_len, HA_len] <;> fail) | (simp [noIdsE_U, noIdsE_UU, noIdsE_TL, noIdsE_HA] <;> fail) | (simp [U, UU, upd] <;> fail) | (simp [U, UU, upd, neS, *] <;> fail)) | (refine Sees.of_seen 3 ?_ <;> simp [seen, upd, noIdsE, noIdsL, noIds, U, UU, Nat.add_assoc] <;> fail) | refine Sees.agg ?_ | refine And.intro ?_ ?_ | simp only [SeesL])) ?_; simp (maxSteps := 400000) (dsimp := false) only [HA_len, axs, AThen, ABlock, dstsOk, AStep, callsF, AWant, aop, AS.ev, AS.put, upd, AS.bound, abin, aint, aload, astore, cellsAt, AV.cells, alen, elems, AV.int?, FPost, aresL, ares1, pack, afill, splice, Value.oneCell', Nat.reduceLT, Nat.reduceLeDiff, Nat.reduceEqDiff, Nat.reduceAdd, Nat.reduceMul, Nat.reduceSub, Nat.reduceBEq, Int.reduceLE, Int.reduceLT, Int.reduceToNat, Int.reduceNeg, Int.reduceEq, axt, ftK, pickP, AScope, AAll, pickQ, ftQ, inHeap, RT, Sl3.cells, tys]
  by_cases h : l.length ≤ 50
  · have h' : ¬ (l.length : Int) > 50 := by omega
    simp (maxSteps := 400000) (dsimp := false) only [h', axs, AThen, ABlock, dstsOk, AStep, callsF, AWant, aop, AS.ev, AS.put, upd, AS.bound, abin, aint, aload, astore, cellsAt, AV.cells, alen, elems, AV.int?, FPost, aresL, ares1, pack, afill, splice, Value.oneCell', Nat.reduceLT, Nat.reduceLeDiff, Nat.reduceEqDiff, Nat.reduceAdd, Nat.reduceMul, Nat.reduceSub, Nat.reduceBEq, Int.reduceLE, Int.reduceLT, Int.reduceToNat, Int.reduceNeg, Int.reduceEq, axt, ftK, pickP, AScope, AAll, pickQ, ftQ, inHeap, RT, Sl3.cells, tys]
    refine ACallK.heap _ rfl (cHtNew _ _) ?_; rintro r' H' n' ⟨rfl, eH, en⟩; obtain rfl := eH.symm; obtain rfl := en.symm; clear eH en; simp (maxSteps := 400000) (dsimp := false) only [axs, AThen, ABlock, dstsOk, AStep, callsF, AWant, aop, AS.ev, AS.put, upd, AS.bound, abin, aint, aload, astore, cellsAt, AV.cells, alen, elems, AV.int?, FPost, aresL, ares1, pack, afill, splice, Value.oneCell', Nat.reduceLT, Nat.reduceLeDiff, Nat.reduceEqDiff, Nat.reduceAdd, Nat.reduceMul, Nat.reduceSub, Nat.reduceBEq, Int.reduceLE, Int.reduceLT, Int.reduceToNat, Int.reduceNeg, Int.reduceEq, axt, ftK, pickP, AScope, AAll, pickQ, ftQ, inHeap, RT, Sl3.cells, tys]
    refine ALoop.upto l.length (fun p t => t.t 0 = .lst 3 (HA l) ∧ t.t 1 = .sc (.int .u64 k) ∧ t.t 5 = .sc (.bool true) ∧ t.t 6 = .ptr (n + 1) 2 0 0 ∧ t.t 9 = .sc (.int .i64 p) ∧ ∃ has v s, t.t 8 = .sc (.bool has) ∧ t.t 7 = .sc (.int .i32 v) ∧ HasIs (hRun (l.take p)) k has v ∧ HtH t.H t.n (n + 1) s (hRun (l.take p)) (cnt (hRun (l.take p)))) ?_ ?_
    · exact ⟨rfl, rfl, rfl, rfl, rfl, false, 0, n, rfl, rfl, hasIs_no empty_ok (fun t ht => absurd ht (empty_mem _ _)) _, newH_is _ n⟩
    · rintro p t hp hb ⟨e0, e1, e5, e6, e9, has, v, s, e8, e7, hh, hA⟩
      obtain ⟨ok, le1, le2⟩ := hRun_ok (l.take p) (fun a ha => hf a (List.mem_of_mem_take ha)) (by rw [List.length_take]; omega)
      have hpl2 : (l.take p).length ≤ l.length := by rw [List.length_take]; omega
      rcases Nat.lt_or_ge p l.length with hlt | hge
      · obtain ⟨x, hx, hp0, hpl, hw, hT, hD⟩ := idx hlt (by omega)
        have hg := HA_get hx
        have hsn := hRun_snoc (l.take p) x
        rw [← hT] at hsn
        have hxf := hf x (List.mem_of_getElem? hx)
        have hdo := cHtDo hA ok (by omega) x hxf
        have hh2 := hh.act ok (by omega) x hxf
        have hdel : x.kind.tmod 3 = 2 → x.key = k → (hDo (hRun (l.take p)) x).2 = has := fun h1 h2 => by unfold hDo; rw [if_pos h1, h2, hDel_has]; exact hh.1
        rw [← hsn] at hdo hh2
        generalize (hDo (hRun (l.take p)) x).2 = res at *
        generalize hRun (l.take p) = R at *
        generalize hRun (l.take (p + 1)) = R2 at *
        simp (maxSteps := 400000) (dsimp := false) only [e0, e6, e9, hpl, HA_len, hg, hp0, axs, AThen, ABlock, dstsOk, AStep, callsF, AWant, aop, AS.ev, AS.put, upd, AS.bound, abin, aint, aload, astore, cellsAt, AV.cells, alen, elems, AV.int?, FPost, aresL, ares1, pack, afill, splice, Value.oneCell', Nat.reduceLT, Nat.reduceLeDiff, Nat.reduceEqDiff, Nat.reduceAdd, Nat.reduceMul, Nat.reduceSub, Nat.reduceBEq, Int.reduceLE, Int.reduceLT, Int.reduceToNat, Int.reduceNeg, Int.reduceEq, axt, ftK, pickP, AScope, AAll, pickQ, ftQ, inHeap, RT, Sl3.cells, tys]
        refine ACallK.heap _ rfl hdo ?_
        rintro r H' n' ⟨rfl, hle, hkeep, s', hA', hs'⟩
        by_cases h1 : x.key = k
        · have h1' := eq_true h1
          rw [if_pos h1, if_pos h1] at hh2
          by_cases h2 : x.kind.tmod 3 = 2
          · have h2' := eq_true h2
            have hr := hdel h2 h1
            rw [decide_eq_false (by omega)] at hh2
            simp (maxSteps := 400000) (dsimp := false) only [e0, e1, e6, e8, e9, hg, hp0, h1', h2', hr, bne_self_eq_false, hw, axs, AThen, ABlock, dstsOk, AStep, callsF, AWant, aop, AS.ev, AS.put, upd, AS.bound, abin, aint, aload, astore, cellsAt, AV.cells, alen, elems, AV.int?, FPost, aresL, ares1, pack, afill, splice, Value.oneCell', Nat.reduceLT, Nat.reduceLeDiff, Nat.reduceEqDiff, Nat.reduceAdd, Nat.reduceMul, Nat.reduceSub, Nat.reduceBEq, Int.reduceLE, Int.reduceLT, Int.reduceToNat, Int.reduceNeg, Int.reduceEq, axt, ftK, pickP, AScope, AAll, pickQ, ftQ, inHeap, RT, Sl3.cells, tys]
            exact ⟨hlt, e5, _, _, s', rfl, rfl, hh2, hA'⟩
          · rw [decide_eq_true h2] at hh2
            simp (maxSteps := 400000) (dsimp := false) only [e0, e1, e6, e8, e9, hg, hp0, h1', h2, hw, axs, AThen, ABlock, dstsOk, AStep, callsF, AWant, aop, AS.ev, AS.put, upd, AS.bound, abin, aint, aload, astore, cellsAt, AV.cells, alen, elems, AV.int?, FPost, aresL, ares1, pack, afill, splice, Value.oneCell', Nat.reduceLT, Nat.reduceLeDiff, Nat.reduceEqDiff, Nat.reduceAdd, Nat.reduceMul, Nat.reduceSub, Nat.reduceBEq, Int.reduceLE, Int.reduceLT, Int.reduceToNat, Int.reduceNeg, Int.reduceEq, axt, ftK, pickP, AScope, AAll, pickQ, ftQ, inHeap, RT, Sl3.cells, tys]
            exact ⟨hlt, e5, _, _, s', rfl, rfl, hh2, hA'⟩
        · rw [if_neg h1, if_neg h1] at hh2
          simp (maxSteps := 400000) (dsimp := false) only [e0, e1, e6, e8, e9, hg, hp0, h1, hw, axs, AThen, ABlock, dstsOk, AStep, callsF, AWant, aop, AS.ev, AS.put, upd, AS.bound, abin, aint, aload, astore, cellsAt, AV.cells, alen, elems, AV.int?, FPost, aresL, ares1, pack, afill, splice, Value.oneCell', Nat.reduceLT, Nat.reduceLeDiff, Nat.reduceEqDiff, Nat.reduceAdd, Nat.reduceMul, Nat.reduceSub, Nat.reduceBEq, Int.reduceLE, Int.reduceLT, Int.reduceToNat, Int.reduceNeg, Int.reduceEq, axt, ftK, pickP, AScope, AAll, pickQ, ftQ, inHeap, RT, Sl3.cells, tys]
          exact ⟨hlt, e5, _, _, s', rfl, e7, hh2, hA'⟩
      · have hpl : ¬ (p : Int) < l.length := by omega
        rw [List.take_of_length_le hge] at hA hh ok
        generalize hRun l = R at *
        simp (maxSteps := 400000) (dsimp := false) only [e0, e1, e5, e6, e7, e8, e9, hpl, HA_len, axs, AThen, ABlock, dstsOk, AStep, callsF, AWant, aop, AS.ev, AS.put, upd, AS.bound, abin, aint, aload, astore, cellsAt, AV.cells, alen, elems, AV.int?, FPost, aresL, ares1, pack, afill, splice, Value.oneCell', Nat.reduceLT, Nat.reduceLeDiff, Nat.reduceEqDiff, Nat.reduceAdd, Nat.reduceMul, Nat.reduceSub, Nat.reduceBEq, Int.reduceLE, Int.reduceLT, Int.reduceToNat, Int.reduceNeg, Int.reduceEq, axt, ftK, pickP, AScope, AAll, pickQ, ftQ, inHeap, RT, Sl3.cells, tys]
        refine ACallK.heap _ rfl (cHtGet hA ok.pw hk (ok.find k)) ?_
        rintro r H2 n2 ⟨rfl, kp⟩
        obtain ⟨hh1, hh2⟩ := hh
        cases has with
        | true =>
          have hh2 := hh2 rfl
          rw [getF, hh1, hh2]
          simp (maxSteps := 400000) (dsimp := false) only [e1, e5, e7, e8, axs, AThen, ABlock, dstsOk, AStep, callsF, AWant, aop, AS.ev, AS.put, upd, AS.bound, abin, aint, aload, astore, cellsAt, AV.cells, alen, elems, AV.int?, FPost, aresL, ares1, pack, afill, splice, Value.oneCell', Nat.reduceLT, Nat.reduceLeDiff, Nat.reduceEqDiff, Nat.reduceAdd, Nat.reduceMul, Nat.reduceSub, Nat.reduceBEq, Int.reduceLE, Int.reduceLT, Int.reduceToNat, Int.reduceNeg, Int.reduceEq, axt, ftK, pickP, AScope, AAll, pickQ, ftQ, inHeap, RT, Sl3.cells, tys]
          exact ⟨_, rfl, Sees.sc⟩
        | false =>
          rw [getF, hh1]
          simp (maxSteps := 400000) (dsimp := false) only [e1, e5, e7, e8, axs, AThen, ABlock, dstsOk, AStep, callsF, AWant, aop, AS.ev, AS.put, upd, AS.bound, abin, aint, aload, astore, cellsAt, AV.cells, alen, elems, AV.int?, FPost, aresL, ares1, pack, afill, splice, Value.oneCell', Nat.reduceLT, Nat.reduceLeDiff, Nat.reduceEqDiff, Nat.reduceAdd, Nat.reduceMul, Nat.reduceSub, Nat.reduceBEq, Int.reduceLE, Int.reduceLT, Int.reduceToNat, Int.reduceNeg, Int.reduceEq, axt, ftK, pickP, AScope, AAll, pickQ, ftQ, inHeap, RT, Sl3.cells, tys]
          exact ⟨_, rfl, Sees.sc⟩
  · have h' : (l.length : Int) > 50 := by omega
    simp (maxSteps := 400000) (dsimp := false) only [h', axs, AThen, ABlock, dstsOk, AStep, callsF, AWant, aop, AS.ev, AS.put, upd, AS.bound, abin, aint, aload, astore, cellsAt, AV.cells, alen, elems, AV.int?, FPost, aresL, ares1, pack, afill, splice, Value.oneCell', Nat.reduceLT, Nat.reduceLeDiff, Nat.reduceEqDiff, Nat.reduceAdd, Nat.reduceMul, Nat.reduceSub, Nat.reduceBEq, Int.reduceLE, Int.reduceLT, Int.reduceToNat, Int.reduceNeg, Int.reduceEq, axt, ftK, pickP, AScope, AAll, pickQ, ftQ, inHeap, RT, Sl3.cells, tys]
    exact ⟨_, rfl, Sees.sc⟩
end Go.Al
