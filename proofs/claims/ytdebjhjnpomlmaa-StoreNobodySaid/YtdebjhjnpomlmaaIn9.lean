/- Lists of places, by the program: two places become neighbours; a place is laid between two. Conditions: the rows are short. -/
import Derived.Test.YtdebjhjnpomlmaaIn8
set_option linter.unusedVariables false
set_option linter.unusedSimpArgs false
set_option maxRecDepth 20000
set_option maxHeartbeats 1600000
-- axs, AThen, ABlock, dstsOk, AStep, callsF, AWant, aop, AS.ev, AS.put, upd, AS.bound, abin, aint, aload, astore, cellsAt, AV.cells, alen, elems, AV.int?, FPost, aresL, ares1, pack, afill, splice, Value.oneCell', Nat.reduceLT, Nat.reduceLeDiff, Nat.reduceEqDiff, Nat.reduceAdd, Nat.reduceMul, Nat.reduceSub, Nat.reduceBEq, Int.reduceLE, Int.reduceLT, Int.reduceToNat, Int.reduceNeg, Int.reduceEq, axt, ftK, ft3, pickP, AScope, AAll, pickQ, ftQ, inHeap, Nd.cells, tys: Nd.cells
namespace Go.Al
open Go.Proofs
theorem cLsJoin {H : AH} {n L r a s : Nat} {fv : AV} {R : RA} {rows : List Rw} (h : LsH H n L r a s fv R rows) (ok : RaOk R) {t : Nat} {w : Rw} (hw : rows[t]? = some w) (p i : Int) (hp : I32ok p) (hi : I32ok i) :
    HCalls Try.prog 77 [.ptr L 2 0 0, .ptr r 3 t 0, .sc (.int .i32 p), .sc (.int .i32 i)] H n fun v H' n' => v = .tup [] ∧ LsTo H n L r a s fv H' n' (joinR R w p i).1 (rows.set t (joinR R w p i).2) := by
  have hr := h.hr
  have hg := RW_get hw
  have hlt : t < rows.length := (List.getElem?_eq_some_iff.1 hw).1
  have hlt' : t < (RW rows).length := by rw [RW_len]; exact hlt
  have nn := h.lr
  have ne1 : ¬ r = n := by omega
  have ne2 : ¬ r = n + 1 := by omega
  have ne3 : ¬ n = r := by omega
  have ne4 : ¬ n + 1 = r := by omega
  have hs := h.ar.slt
  have bx : ∀ (x y : Option AO), (upd (upd H n x) (n + 1) y) n = x ∧ (upd (upd H n x) (n + 1) y) (n + 1) = y := fun x y => ⟨by rw [upd_ne _ _ (by omega), upd_same], upd_same _ _ _⟩
  by_cases p0 : p = 0
  · subst p0
    have hb := (h.new (x := some (.obj 21 1 [[.sc (.int .i32 0)]] false))).new (x := some (.obj 21 1 [[.sc (.int .i32 i)]] false))
    have e1 : (RW rows).set t [.sc (.int .i32 i), .sc (.int .i32 w.b), .sc (.int .i64 w.n)] = RW (rows.set t ⟨i, w.b, w.n⟩) := RW_set rows t ⟨i, w.b, w.n⟩
    have hw1 : (rows.set t ⟨i, w.b, w.n⟩)[t]? = some ⟨i, w.b, w.n⟩ := List.getElem?_set_self hlt
    have hg1 := RW_get hw1
    have hl1 : (rows.set t ⟨i, w.b, w.n⟩).length = rows.length := by simp
    have to1 := LsTo.row hb hl1
    by_cases i0 : i = 0
    · subst i0
      have e2 : (RW (rows.set t ⟨0, w.b, w.n⟩)).set t [.sc (.int .i32 0), .sc (.int .i32 0), .sc (.int .i64 w.n)] = RW (rows.set t ⟨0, 0, w.n⟩) := by
        have := RW_set (rows.set t ⟨0, w.b, w.n⟩) t ⟨0, 0, w.n⟩
        rwa [List.set_set] at this
      have hj : joinR R w 0 0 = (R, ⟨0, 0, w.n⟩) := by unfold joinR; simp
      have to2 := LsTo.row hb (rows' := rows.set t ⟨0, 0, w.n⟩) (by simp)
      rw [hj]
      refine HCalls.walk Try.func77 rfl rfl Try.ntmps77 Try.results77 (by simp) ?_; simp (maxSteps := 400000) (dsimp := false) only [hr, hg, hg1, e1, e2, ne1, ne2, ne3, ne4, upd_upd, axs, AThen, ABlock, dstsOk, AStep, callsF, AWant, aop, AS.ev, AS.put, upd, AS.bound, abin, aint, aload, astore, cellsAt, AV.cells, alen, elems, AV.int?, FPost, aresL, ares1, pack, afill, splice, Value.oneCell', Nat.reduceLT, Nat.reduceLeDiff, Nat.reduceEqDiff, Nat.reduceAdd, Nat.reduceMul, Nat.reduceSub, Nat.reduceBEq, Int.reduceLE, Int.reduceLT, Int.reduceToNat, Int.reduceNeg, Int.reduceEq, axt, ftK, ft3, pickP, AScope, AAll, pickQ, ftQ, inHeap, Nd.cells, tys]
      exact ⟨_, rfl, rfl, to2.new.new⟩
    · have hj : joinR R w 0 i = (wth R i (gPrev 0), ⟨i, w.b, w.n⟩) := by unfold joinR; simp [i0]
      rw [hj]
      refine HCalls.walk Try.func77 rfl rfl Try.ntmps77 Try.results77 (by simp) ?_; simp (maxSteps := 400000) (dsimp := false) only [i0, hr, hg, hg1, e1, ne1, ne2, ne3, ne4, upd_upd, axs, AThen, ABlock, dstsOk, AStep, callsF, AWant, aop, AS.ev, AS.put, upd, AS.bound, abin, aint, aload, astore, cellsAt, AV.cells, alen, elems, AV.int?, FPost, aresL, ares1, pack, afill, splice, Value.oneCell', Nat.reduceLT, Nat.reduceLeDiff, Nat.reduceEqDiff, Nat.reduceAdd, Nat.reduceMul, Nat.reduceSub, Nat.reduceBEq, Int.reduceLE, Int.reduceLT, Int.reduceToNat, Int.reduceNeg, Int.reduceEq, axt, ftK, ft3, pickP, AScope, AAll, pickQ, ftQ, inHeap, Nd.cells, tys]
      refine ACallK.heap _ rfl (cLsWith to1.ls ok i hi (tPrev (b := n) (v := 0) ?_ (by omega))) ?_
      · rw [upd_ne _ _ ne3, (bx _ _).1]
      rintro v H' n' ⟨rfl, rfl, rfl⟩
      simp (maxSteps := 400000) (dsimp := false) only [axs, AThen, ABlock, dstsOk, AStep, callsF, AWant, aop, AS.ev, AS.put, upd, AS.bound, abin, aint, aload, astore, cellsAt, AV.cells, alen, elems, AV.int?, FPost, aresL, ares1, pack, afill, splice, Value.oneCell', Nat.reduceLT, Nat.reduceLeDiff, Nat.reduceEqDiff, Nat.reduceAdd, Nat.reduceMul, Nat.reduceSub, Nat.reduceBEq, Int.reduceLE, Int.reduceLT, Int.reduceToNat, Int.reduceNeg, Int.reduceEq, axt, ftK, ft3, pickP, AScope, AAll, pickQ, ftQ, inHeap, Nd.cells, tys]
      exact ⟨_, rfl, rfl, (to1.trans (LsTo.wth to1.ls ok i (gPrev 0))).new.new⟩
  · have hb := (h.new (x := some (.obj 21 1 [[.sc (.int .i32 p)]] false))).new (x := some (.obj 21 1 [[.sc (.int .i32 i)]] false))
    have to1 := LsTo.wth hb ok p (gNext i)
    have ok1 := wth_ok ok p (gNext i)
    have b0 := (to1.keep n (by omega) (by omega) (by omega)).trans (bx _ _).1
    have b1 := (to1.keep (n + 1) (by omega) (by omega) (by omega)).trans (bx _ _).2
    have hr1 := to1.ls.hr
    by_cases i0 : i = 0
    · subst i0
      have hj : joinR R w p 0 = (wth R p (gNext 0), ⟨w.f, p, w.n⟩) := by unfold joinR; simp [p0]
      have e1 : (RW rows).set t [.sc (.int .i32 w.f), .sc (.int .i32 p), .sc (.int .i64 w.n)] = RW (rows.set t ⟨w.f, p, w.n⟩) := RW_set rows t ⟨w.f, p, w.n⟩
      have to2 := LsTo.row to1.ls (rows' := rows.set t ⟨w.f, p, w.n⟩) (by simp)
      rw [hj]
      refine HCalls.walk Try.func77 rfl rfl Try.ntmps77 Try.results77 (by simp) ?_; simp (maxSteps := 400000) (dsimp := false) only [p0, axs, AThen, ABlock, dstsOk, AStep, callsF, AWant, aop, AS.ev, AS.put, upd, AS.bound, abin, aint, aload, astore, cellsAt, AV.cells, alen, elems, AV.int?, FPost, aresL, ares1, pack, afill, splice, Value.oneCell', Nat.reduceLT, Nat.reduceLeDiff, Nat.reduceEqDiff, Nat.reduceAdd, Nat.reduceMul, Nat.reduceSub, Nat.reduceBEq, Int.reduceLE, Int.reduceLT, Int.reduceToNat, Int.reduceNeg, Int.reduceEq, axt, ftK, ft3, pickP, AScope, AAll, pickQ, ftQ, inHeap, Nd.cells, tys]
      refine ACallK.heap _ rfl (cLsWith hb ok p hp (tNext (b := n + 1) (v := 0) (bx _ _).2 (by omega))) ?_
      rintro v H' n' ⟨rfl, rfl, rfl⟩
      simp (maxSteps := 400000) (dsimp := false) only [p0, hr1, hg, e1, b0, b1, axs, AThen, ABlock, dstsOk, AStep, callsF, AWant, aop, AS.ev, AS.put, upd, AS.bound, abin, aint, aload, astore, cellsAt, AV.cells, alen, elems, AV.int?, FPost, aresL, ares1, pack, afill, splice, Value.oneCell', Nat.reduceLT, Nat.reduceLeDiff, Nat.reduceEqDiff, Nat.reduceAdd, Nat.reduceMul, Nat.reduceSub, Nat.reduceBEq, Int.reduceLE, Int.reduceLT, Int.reduceToNat, Int.reduceNeg, Int.reduceEq, axt, ftK, ft3, pickP, AScope, AAll, pickQ, ftQ, inHeap, Nd.cells, tys]
      exact ⟨_, rfl, rfl, (to1.trans to2).new.new⟩
    · have hj : joinR R w p i = (wth (wth R p (gNext i)) i (gPrev p), w) := by unfold joinR; simp [p0, i0]
      have to2 := LsTo.wth to1.ls ok1 i (gPrev p)
      have hset : rows.set t w = rows := by
        apply List.ext_getElem?
        intro j
        by_cases e : j = t
        · subst e; rw [List.getElem?_set_self hlt, hw]
        · rw [List.getElem?_set_ne (fun hh => e hh.symm)]
      rw [hj, hset]
      refine HCalls.walk Try.func77 rfl rfl Try.ntmps77 Try.results77 (by simp) ?_; simp (maxSteps := 400000) (dsimp := false) only [p0, axs, AThen, ABlock, dstsOk, AStep, callsF, AWant, aop, AS.ev, AS.put, upd, AS.bound, abin, aint, aload, astore, cellsAt, AV.cells, alen, elems, AV.int?, FPost, aresL, ares1, pack, afill, splice, Value.oneCell', Nat.reduceLT, Nat.reduceLeDiff, Nat.reduceEqDiff, Nat.reduceAdd, Nat.reduceMul, Nat.reduceSub, Nat.reduceBEq, Int.reduceLE, Int.reduceLT, Int.reduceToNat, Int.reduceNeg, Int.reduceEq, axt, ftK, ft3, pickP, AScope, AAll, pickQ, ftQ, inHeap, Nd.cells, tys]
      refine ACallK.heap _ rfl (cLsWith hb ok p hp (tNext (b := n + 1) (v := i) (bx _ _).2 (by omega))) ?_
      rintro v H' n' ⟨rfl, rfl, rfl⟩
      simp (maxSteps := 400000) (dsimp := false) only [p0, i0, b0, b1, axs, AThen, ABlock, dstsOk, AStep, callsF, AWant, aop, AS.ev, AS.put, upd, AS.bound, abin, aint, aload, astore, cellsAt, AV.cells, alen, elems, AV.int?, FPost, aresL, ares1, pack, afill, splice, Value.oneCell', Nat.reduceLT, Nat.reduceLeDiff, Nat.reduceEqDiff, Nat.reduceAdd, Nat.reduceMul, Nat.reduceSub, Nat.reduceBEq, Int.reduceLE, Int.reduceLT, Int.reduceToNat, Int.reduceNeg, Int.reduceEq, axt, ftK, ft3, pickP, AScope, AAll, pickQ, ftQ, inHeap, Nd.cells, tys]
      refine ACallK.heap _ rfl (cLsWith to1.ls ok1 i hi (tPrev (b := n) (v := p) b0 (by omega))) ?_
      rintro v H' n' ⟨rfl, rfl, rfl⟩
      simp (maxSteps := 400000) (dsimp := false) only [axs, AThen, ABlock, dstsOk, AStep, callsF, AWant, aop, AS.ev, AS.put, upd, AS.bound, abin, aint, aload, astore, cellsAt, AV.cells, alen, elems, AV.int?, FPost, aresL, ares1, pack, afill, splice, Value.oneCell', Nat.reduceLT, Nat.reduceLeDiff, Nat.reduceEqDiff, Nat.reduceAdd, Nat.reduceMul, Nat.reduceSub, Nat.reduceBEq, Int.reduceLE, Int.reduceLT, Int.reduceToNat, Int.reduceNeg, Int.reduceEq, axt, ftK, ft3, pickP, AScope, AAll, pickQ, ftQ, inHeap, Nd.cells, tys]
      exact ⟨_, rfl, rfl, (to1.trans to2).new.new⟩
end Go.Al
