/- Lists of places, by the program: two places become neighbours. Conditions: the rows are short. Lists of places, by the program: two places become neighbours; a place is laid between two. Conditions: the rows are short. Lists of places, by the program: a place is laid between two, taken out, moved. Conditions: the rows are short. Lists of places, by the program: pushed, taken out, moved. Conditions: the rows are short. Lists of places: as many in lists as there are places with a list's tag, of rows alone. Conditions: none. Lists of places: each act keeps what ties nodes and rows to lists, of rows alone. Conditions: few places. -/
import Derived.Test.YtdebjhjnpomlmaaInA
section
set_option linter.unusedVariables false
set_option linter.unusedSimpArgs false
set_option maxRecDepth 20000
set_option maxHeartbeats 1600000
-- axs, AThen, ABlock, dstsOk, AStep, callsF, AWant, aop, AS.ev, AS.put, upd, AS.bound, abin, aint, aload, astore, cellsAt, AV.cells, alen, elems, AV.int?, FPost, aresL, ares1, pack, afill, splice, Value.oneCell', Nat.reduceLT, Nat.reduceLeDiff, Nat.reduceEqDiff, Nat.reduceAdd, Nat.reduceMul, Nat.reduceSub, Nat.reduceBEq, Int.reduceLE, Int.reduceLT, Int.reduceToNat, Int.reduceNeg, Int.reduceEq, axt, ftK, ft3, pickP, AScope, AAll, pickQ, ftQ, inHeap, Nd.cells, tys: Nd.cells
namespace Go.Al
open Go.Proofs
theorem tNext {H : AH} {n b : Nat} {v : Int} (hb : H b = some (.obj 21 1 [[.sc (.int .i32 v)]] false)) (hbn : b < n) : Turns H n 94 [.ptr b 1 0 0] (gNext v) := by
  intro x H1 n1 p hk h1 h2 hp
  have hb1 := (hk.2 b hbn).trans hb
  refine HCalls.walk Try.func94 rfl rfl Try.ntmps94 Try.results94 (by simp) ?_; simp (maxSteps := 400000) (dsimp := false) only [hp, hb1, axs, AThen, ABlock, dstsOk, AStep, callsF, AWant, aop, AS.ev, AS.put, upd, AS.bound, abin, aint, aload, astore, cellsAt, AV.cells, alen, elems, AV.int?, FPost, aresL, ares1, pack, afill, splice, Value.oneCell', Nat.reduceLT, Nat.reduceLeDiff, Nat.reduceEqDiff, Nat.reduceAdd, Nat.reduceMul, Nat.reduceSub, Nat.reduceBEq, Int.reduceLE, Int.reduceLT, Int.reduceToNat, Int.reduceNeg, Int.reduceEq, axt, ftK, ft3, pickP, AScope, AAll, pickQ, ftQ, inHeap, Nd.cells, tys]
  exact ⟨_, rfl, rfl, rfl⟩
theorem tPrev {H : AH} {n b : Nat} {v : Int} (hb : H b = some (.obj 21 1 [[.sc (.int .i32 v)]] false)) (hbn : b < n) : Turns H n 95 [.ptr b 1 0 0] (gPrev v) := by
  intro x H1 n1 p hk h1 h2 hp
  have hb1 := (hk.2 b hbn).trans hb
  refine HCalls.walk Try.func95 rfl rfl Try.ntmps95 Try.results95 (by simp) ?_; simp (maxSteps := 400000) (dsimp := false) only [hp, hb1, axs, AThen, ABlock, dstsOk, AStep, callsF, AWant, aop, AS.ev, AS.put, upd, AS.bound, abin, aint, aload, astore, cellsAt, AV.cells, alen, elems, AV.int?, FPost, aresL, ares1, pack, afill, splice, Value.oneCell', Nat.reduceLT, Nat.reduceLeDiff, Nat.reduceEqDiff, Nat.reduceAdd, Nat.reduceMul, Nat.reduceSub, Nat.reduceBEq, Int.reduceLE, Int.reduceLT, Int.reduceToNat, Int.reduceNeg, Int.reduceEq, axt, ftK, ft3, pickP, AScope, AAll, pickQ, ftQ, inHeap, Nd.cells, tys]
  exact ⟨_, rfl, rfl, rfl⟩
theorem tOff {H : AH} {n : Nat} : Turns H n 79 [] gOff := by
  intro x H1 n1 p hk h1 h2 hp
  refine HCalls.walk Try.func79 rfl rfl Try.ntmps79 Try.results79 (by simp) ?_; simp (maxSteps := 400000) (dsimp := false) only [hp, upd_upd, axs, AThen, ABlock, dstsOk, AStep, callsF, AWant, aop, AS.ev, AS.put, upd, AS.bound, abin, aint, aload, astore, cellsAt, AV.cells, alen, elems, AV.int?, FPost, aresL, ares1, pack, afill, splice, Value.oneCell', Nat.reduceLT, Nat.reduceLeDiff, Nat.reduceEqDiff, Nat.reduceAdd, Nat.reduceMul, Nat.reduceSub, Nat.reduceBEq, Int.reduceLE, Int.reduceLT, Int.reduceToNat, Int.reduceNeg, Int.reduceEq, axt, ftK, ft3, pickP, AScope, AAll, pickQ, ftQ, inHeap, Nd.cells, tys]
  exact ⟨_, rfl, rfl, rfl⟩
theorem tLay {H : AH} {n b c d : Nat} {t p q : Int} (ht0 : 0 ≤ t) (ht : t ≤ 1000) (hb : H b = some (.obj 3 1 [[.sc (.int .i64 t)]] false)) (hc : H c = some (.obj 21 1 [[.sc (.int .i32 p)]] false)) (hd : H d = some (.obj 21 1 [[.sc (.int .i32 q)]] false)) (hbn : b < n) (hcn : c < n) (hdn : d < n) :
    Turns H n 93 [.ptr b 1 0 0, .ptr c 1 0 0, .ptr d 1 0 0] (gLay t p q) := by
  intro x H1 n1 o hk h1 h2 hp
  have hb1 := (hk.2 b hbn).trans hb
  have hc1 := (hk.2 c hcn).trans hc
  have hd1 := (hk.2 d hdn).trans hd
  have w : IntKind.i64.wrap (t + 1) = t + 1 := IntWalk.i64_in _ ⟨by omega, by omega⟩
  have ne1 : ¬ b = o := by omega
  have ne2 : ¬ c = o := by omega
  have ne3 : ¬ d = o := by omega
  refine HCalls.walk Try.func93 rfl rfl Try.ntmps93 Try.results93 (by simp) ?_; simp (maxSteps := 400000) (dsimp := false) only [axs, AThen, ABlock, dstsOk, AStep, callsF, AWant, aop, AS.ev, AS.put, upd, AS.bound, abin, aint, aload, astore, cellsAt, AV.cells, alen, elems, AV.int?, FPost, aresL, ares1, pack, afill, splice, Value.oneCell', Nat.reduceLT, Nat.reduceLeDiff, Nat.reduceEqDiff, Nat.reduceAdd, Nat.reduceMul, Nat.reduceSub, Nat.reduceBEq, Int.reduceLE, Int.reduceLT, Int.reduceToNat, Int.reduceNeg, Int.reduceEq, axt, ftK, ft3, pickP, AScope, AAll, pickQ, ftQ, inHeap, Nd.cells, tys]
  refine ADraw.tree3 [] [(0, true), (1, true), (2, true), (3, true), (4, true), (7, true), (8, true)] 8 (.fork [(5, true)] (.leaf [(6, true), (9, true), (10, true), (11, true), (12, true), (13, true), (14, true), (15, true)]) (.fork [(9, true), (10, true), (11, true)] (.leaf [(6, true), (12, true), (13, true), (14, true), (15, true)]) (.leaf [(12, true), (6, true), (13, true), (14, true), (15, true)]) (.leaf [(12, true), (6, true), (13, true), (14, true), (15, true)])) (.fork [(9, true), (10, true), (11, true)] (.leaf [(6, true), (12, true), (13, true), (14, true), (15, true)]) (.leaf [(12, true), (6, true), (13, true), (14, true), (15, true)]) (.leaf [(12, true), (6, true), (13, true), (14, true), (15, true)]))) (.fork [(6, true)] (.leaf [(5, true), (9, true), (10, true), (11, true), (12, true), (13, true), (14, true), (15, true)]) (.leaf [(9, true), (5, true), (10, true), (11, true), (12, true), (13, true), (14, true), (15, true)]) (.leaf [(9, true), (5, true), (10, true), (11, true), (12, true), (13, true), (14, true), (15, true)])) (.fork [(9, true), (5, true), (10, true), (11, true)] (.leaf [(6, true), (12, true), (13, true), (14, true), (15, true)]) (.leaf [(12, true), (6, true), (13, true), (14, true), (15, true)]) (.leaf [(12, true), (6, true), (13, true), (14, true), (15, true)])) mixed (by kernel_rfl) ?_
  simp (maxSteps := 400000) (dsimp := false) only [hp, hb1, hc1, hd1, ne1, ne2, ne3, w, upd_upd, axs, AThen, ABlock, dstsOk, AStep, callsF, AWant, aop, AS.ev, AS.put, upd, AS.bound, abin, aint, aload, astore, cellsAt, AV.cells, alen, elems, AV.int?, FPost, aresL, ares1, pack, afill, splice, Value.oneCell', Nat.reduceLT, Nat.reduceLeDiff, Nat.reduceEqDiff, Nat.reduceAdd, Nat.reduceMul, Nat.reduceSub, Nat.reduceBEq, Int.reduceLE, Int.reduceLT, Int.reduceToNat, Int.reduceNeg, Int.reduceEq, axt, ftK, ft3, pickP, AScope, AAll, pickQ, ftQ, inHeap, Nd.cells, tys]
  refine AFork3.intro ?_ ?_ ?_
  all_goals simp (maxSteps := 400000) (dsimp := false) only [hp, hb1, hc1, hd1, ne1, ne2, ne3, w, upd_upd, axs, AThen, ABlock, dstsOk, AStep, callsF, AWant, aop, AS.ev, AS.put, upd, AS.bound, abin, aint, aload, astore, cellsAt, AV.cells, alen, elems, AV.int?, FPost, aresL, ares1, pack, afill, splice, Value.oneCell', Nat.reduceLT, Nat.reduceLeDiff, Nat.reduceEqDiff, Nat.reduceAdd, Nat.reduceMul, Nat.reduceSub, Nat.reduceBEq, Int.reduceLE, Int.reduceLT, Int.reduceToNat, Int.reduceNeg, Int.reduceEq, axt, ftK, ft3, pickP, AScope, AAll, pickQ, ftQ, inHeap, Nd.cells, tys]
  all_goals refine AFork3.intro ?_ ?_ ?_
  all_goals simp (maxSteps := 400000) (dsimp := false) only [hp, hb1, hc1, hd1, ne1, ne2, ne3, w, upd_upd, axs, AThen, ABlock, dstsOk, AStep, callsF, AWant, aop, AS.ev, AS.put, upd, AS.bound, abin, aint, aload, astore, cellsAt, AV.cells, alen, elems, AV.int?, FPost, aresL, ares1, pack, afill, splice, Value.oneCell', Nat.reduceLT, Nat.reduceLeDiff, Nat.reduceEqDiff, Nat.reduceAdd, Nat.reduceMul, Nat.reduceSub, Nat.reduceBEq, Int.reduceLE, Int.reduceLT, Int.reduceToNat, Int.reduceNeg, Int.reduceEq, axt, ftK, ft3, pickP, AScope, AAll, pickQ, ftQ, inHeap, Nd.cells, tys]
  all_goals first | exact ⟨_, rfl, rfl, rfl⟩ | refine AFork3.intro ?_ ?_ ?_
  all_goals simp (maxSteps := 400000) (dsimp := false) only [hp, hb1, hc1, hd1, ne1, ne2, ne3, w, upd_upd, axs, AThen, ABlock, dstsOk, AStep, callsF, AWant, aop, AS.ev, AS.put, upd, AS.bound, abin, aint, aload, astore, cellsAt, AV.cells, alen, elems, AV.int?, FPost, aresL, ares1, pack, afill, splice, Value.oneCell', Nat.reduceLT, Nat.reduceLeDiff, Nat.reduceEqDiff, Nat.reduceAdd, Nat.reduceMul, Nat.reduceSub, Nat.reduceBEq, Int.reduceLE, Int.reduceLT, Int.reduceToNat, Int.reduceNeg, Int.reduceEq, axt, ftK, ft3, pickP, AScope, AAll, pickQ, ftQ, inHeap, Nd.cells, tys]
  all_goals exact ⟨_, rfl, rfl, rfl⟩
/-- Lists that a call has turned: what lay lies as it lay, but for the rows and the nodes. -/
structure LsTo (H : AH) (n L r a s : Nat) (fv : AV) (H' : AH) (n' : Nat) (R' : RA) (rows' : List Rw) : Prop where
  le : n ≤ n'
  keep : ∀ j, j < n → j ≠ r → j ≠ s → H' j = H j
  ls : LsH H' n' L r a s fv R' rows'
theorem LsTo.trans {H H' H'' : AH} {n n' n'' L r a s : Nat} {fv : AV} {R' R'' : RA} {rows' rows'' : List Rw} (h : LsTo H n L r a s fv H' n' R' rows') (k : LsTo H' n' L r a s fv H'' n'' R'' rows'') : LsTo H n L r a s fv H'' n'' R'' rows'' :=
  ⟨Nat.le_trans h.le k.le, fun j h1 h2 h3 => (k.keep j (Nat.lt_of_lt_of_le h1 h.le) h2 h3).trans (h.keep j h1 h2 h3), k.ls⟩
theorem LsTo.same {H : AH} {n L r a s : Nat} {fv : AV} {R : RA} {rows : List Rw} (h : LsH H n L r a s fv R rows) : LsTo H n L r a s fv H n R rows := ⟨Nat.le_refl _, fun _ _ _ _ => rfl, h⟩
theorem LsTo.new {H H' : AH} {n n' L r a s : Nat} {fv : AV} {R' : RA} {rows' : List Rw} {x : Option AO} (h : LsTo (upd H n x) (n + 1) L r a s fv H' n' R' rows') : LsTo H n L r a s fv H' n' R' rows' :=
  ⟨by have := h.le; omega, fun j h1 h2 h3 => (h.keep j (by omega) h2 h3).trans (upd_ne _ _ (by omega)), h.ls⟩
theorem ArH.slt {H : AH} {n a s : Nat} {fv : AV} {A : AR} (h : ArH H n a s fv A) : s < n := h.ls
theorem LsTo.wth {H : AH} {n L r a s : Nat} {fv : AV} {R : RA} {rows : List Rw} (h : LsH H n L r a s fv R rows) (ok : RaOk R) (i : Int) (g : Nd → Nd) :
    LsTo H n L r a s fv (wH H n s R i g) (n + 1 + 1 + 1) (Al.wth R i g) rows := by
  have h2 := h.new (x := some (.obj 82 6 [(raAt R i).cells] false)) |>.new (x := some (.obj 82 6 [(g (raAt R i)).cells] false))
  have hk : ∀ j, j < n → j ≠ s → wH H n s R i g j = H j := by
    intro j hj hs
    unfold wH setH
    rw [upd_ne _ _ hs, upd_ne _ _ (by omega), upd_ne _ _ (by omega), upd_ne _ _ (by omega)]
  have nLs : ¬ L = s := fun e => h.nL (.inr (.inl e))
  have nrs : ¬ r = s := fun e => h.nr (.inr (.inl e))
  refine ⟨by omega, fun j h1 _ h3 => hk j h1 h3, ⟨?_, ?_, h2.ar.setR ok i (g (raAt R i)), by have := h.lL; omega, by have := h.lr; omega, h.nL, h.nr⟩⟩
  · rw [hk L h.lL nLs]; exact h.hL
  · rw [hk r h.lr nrs]; exact h.hr
/-- A row is laid. -/
theorem LsTo.row {H : AH} {n L r a s : Nat} {fv : AV} {R : RA} {rows : List Rw} (h : LsH H n L r a s fv R rows) {rows' : List Rw} (hl : rows'.length = rows.length) :
    LsTo H n L r a s fv (upd H r (some (.obj 122 3 (RW rows') false))) n R rows' := by
  have nLr : ¬ L = r := fun e => by have h1 := h.hL; rw [e, h.hr] at h1; simp at h1
  refine ⟨by omega, fun j _ h2 _ => upd_ne _ _ h2, ⟨?_, upd_same _ _ _, ?_, h.lL, h.lr, h.nL, h.nr⟩⟩
  · rw [upd_ne _ _ nLr, hl]; exact h.hL
  · exact h.ar.keep (Nat.le_refl _) fun j _ ho => upd_ne _ _ (fun e => h.nr (by rw [← e]; exact ho))
end Go.Al
end
section
set_option linter.unusedVariables false
set_option linter.unusedSimpArgs false
set_option maxRecDepth 20000
set_option maxHeartbeats 1600000
-- axs, AThen, ABlock, dstsOk, AStep, callsF, AWant, aop, AS.ev, AS.put, upd, AS.bound, abin, aint, aload, astore, cellsAt, AV.cells, alen, elems, AV.int?, FPost, aresL, ares1, pack, afill, splice, Value.oneCell', Nat.reduceLT, Nat.reduceLeDiff, Nat.reduceEqDiff, Nat.reduceAdd, Nat.reduceMul, Nat.reduceSub, Nat.reduceBEq, Int.reduceLE, Int.reduceLT, Int.reduceToNat, Int.reduceNeg, Int.reduceEq, axt, ftK, ft3, pickP, AScope, AAll, pickQ, ftQ, inHeap, Nd.cells, tys: Nd.cells
namespace Go.Al
open Go.Proofs
theorem cLsJoin {H : AH} {n L r a s : Nat} {fv : AV} {R : RA} {rows : List Rw} (h : LsH H n L r a s fv R rows) (ok : RaOk R) {t : Nat} {w : Rw} (hw : rows[t]? = some w) (p i : Int) (hp : I32ok p) (hi : I32ok i) :
    HCalls Try.prog 77 [.ptr L 2 0 0, .ptr r 3 t 0, .sc (.int .i32 p), .sc (.int .i32 i)] H n fun v H' n' => v = .tup [] ∧ LsTo H n L r a s fv H' n' (joinR R w p i).1 (rows.set t (joinR R w p i).2) := by
  have hr := h.hr
  have hg := RW_get hw
  have hlt : t < rows.length := (List.getElem?_eq_some_iff.1 hw).1
  have hlt' : t < (RW rows).length := by rw [RW_len]; exact hlt
  have nn := h.lr
  have ne1 : ¬ r = n := by omega
  have ne2 : ¬ r = n + 1 := by omega
  have ne3 : ¬ n = r := by omega
  have ne4 : ¬ n + 1 = r := by omega
  have hs := h.ar.slt
  have bx : ∀ (x y : Option AO), (upd (upd H n x) (n + 1) y) n = x ∧ (upd (upd H n x) (n + 1) y) (n + 1) = y := fun x y => ⟨by rw [upd_ne _ _ (by omega), upd_same], upd_same _ _ _⟩
  by_cases p0 : p = 0
  · subst p0
    have hb := (h.new (x := some (.obj 21 1 [[.sc (.int .i32 0)]] false))).new (x := some (.obj 21 1 [[.sc (.int .i32 i)]] false))
    have e1 : (RW rows).set t [.sc (.int .i32 i), .sc (.int .i32 w.b), .sc (.int .i64 w.n)] = RW (rows.set t ⟨i, w.b, w.n⟩) := RW_set rows t ⟨i, w.b, w.n⟩
    have hw1 : (rows.set t ⟨i, w.b, w.n⟩)[t]? = some ⟨i, w.b, w.n⟩ := List.getElem?_set_self hlt
    have hg1 := RW_get hw1
    have hl1 : (rows.set t ⟨i, w.b, w.n⟩).length = rows.length := by simp
    have to1 := LsTo.row hb hl1
    by_cases i0 : i = 0
    · subst i0
      have e2 : (RW (rows.set t ⟨0, w.b, w.n⟩)).set t [.sc (.int .i32 0), .sc (.int .i32 0), .sc (.int .i64 w.n)] = RW (rows.set t ⟨0, 0, w.n⟩) := by
        have := RW_set (rows.set t ⟨0, w.b, w.n⟩) t ⟨0, 0, w.n⟩
        rwa [List.set_set] at this
      have hj : joinR R w 0 0 = (R, ⟨0, 0, w.n⟩) := by unfold joinR; simp
      have to2 := LsTo.row hb (rows' := rows.set t ⟨0, 0, w.n⟩) (by simp)
      rw [hj]
      refine HCalls.walk Try.func77 rfl rfl Try.ntmps77 Try.results77 (by simp) ?_; simp (maxSteps := 400000) (dsimp := false) only [hr, hg, hg1, e1, e2, ne1, ne2, ne3, ne4, upd_upd, axs, AThen, ABlock, dstsOk, AStep, callsF, AWant, aop, AS.ev, AS.put, upd, AS.bound, abin, aint, aload, astore, cellsAt, AV.cells, alen, elems, AV.int?, FPost, aresL, ares1, pack, afill, splice, Value.oneCell', Nat.reduceLT, Nat.reduceLeDiff, Nat.reduceEqDiff, Nat.reduceAdd, Nat.reduceMul, Nat.reduceSub, Nat.reduceBEq, Int.reduceLE, Int.reduceLT, Int.reduceToNat, Int.reduceNeg, Int.reduceEq, axt, ftK, ft3, pickP, AScope, AAll, pickQ, ftQ, inHeap, Nd.cells, tys]
      exact ⟨_, rfl, rfl, to2.new.new⟩
    · have hj : joinR R w 0 i = (wth R i (gPrev 0), ⟨i, w.b, w.n⟩) := by unfold joinR; simp [i0]
      rw [hj]
      refine HCalls.walk Try.func77 rfl rfl Try.ntmps77 Try.results77 (by simp) ?_; simp (maxSteps := 400000) (dsimp := false) only [i0, hr, hg, hg1, e1, ne1, ne2, ne3, ne4, upd_upd, axs, AThen, ABlock, dstsOk, AStep, callsF, AWant, aop, AS.ev, AS.put, upd, AS.bound, abin, aint, aload, astore, cellsAt, AV.cells, alen, elems, AV.int?, FPost, aresL, ares1, pack, afill, splice, Value.oneCell', Nat.reduceLT, Nat.reduceLeDiff, Nat.reduceEqDiff, Nat.reduceAdd, Nat.reduceMul, Nat.reduceSub, Nat.reduceBEq, Int.reduceLE, Int.reduceLT, Int.reduceToNat, Int.reduceNeg, Int.reduceEq, axt, ftK, ft3, pickP, AScope, AAll, pickQ, ftQ, inHeap, Nd.cells, tys]
      refine ACallK.heap _ rfl (cLsWith to1.ls ok i hi (tPrev (b := n) (v := 0) ?_ (by omega))) ?_
      · rw [upd_ne _ _ ne3, (bx _ _).1]
      rintro v H' n' ⟨rfl, rfl, rfl⟩
      simp (maxSteps := 400000) (dsimp := false) only [axs, AThen, ABlock, dstsOk, AStep, callsF, AWant, aop, AS.ev, AS.put, upd, AS.bound, abin, aint, aload, astore, cellsAt, AV.cells, alen, elems, AV.int?, FPost, aresL, ares1, pack, afill, splice, Value.oneCell', Nat.reduceLT, Nat.reduceLeDiff, Nat.reduceEqDiff, Nat.reduceAdd, Nat.reduceMul, Nat.reduceSub, Nat.reduceBEq, Int.reduceLE, Int.reduceLT, Int.reduceToNat, Int.reduceNeg, Int.reduceEq, axt, ftK, ft3, pickP, AScope, AAll, pickQ, ftQ, inHeap, Nd.cells, tys]
      exact ⟨_, rfl, rfl, (to1.trans (LsTo.wth to1.ls ok i (gPrev 0))).new.new⟩
  · have hb := (h.new (x := some (.obj 21 1 [[.sc (.int .i32 p)]] false))).new (x := some (.obj 21 1 [[.sc (.int .i32 i)]] false))
    have to1 := LsTo.wth hb ok p (gNext i)
    have ok1 := wth_ok ok p (gNext i)
    have b0 := (to1.keep n (by omega) (by omega) (by omega)).trans (bx _ _).1
    have b1 := (to1.keep (n + 1) (by omega) (by omega) (by omega)).trans (bx _ _).2
    have hr1 := to1.ls.hr
    by_cases i0 : i = 0
    · subst i0
      have hj : joinR R w p 0 = (wth R p (gNext 0), ⟨w.f, p, w.n⟩) := by unfold joinR; simp [p0]
      have e1 : (RW rows).set t [.sc (.int .i32 w.f), .sc (.int .i32 p), .sc (.int .i64 w.n)] = RW (rows.set t ⟨w.f, p, w.n⟩) := RW_set rows t ⟨w.f, p, w.n⟩
      have to2 := LsTo.row to1.ls (rows' := rows.set t ⟨w.f, p, w.n⟩) (by simp)
      rw [hj]
      refine HCalls.walk Try.func77 rfl rfl Try.ntmps77 Try.results77 (by simp) ?_; simp (maxSteps := 400000) (dsimp := false) only [p0, axs, AThen, ABlock, dstsOk, AStep, callsF, AWant, aop, AS.ev, AS.put, upd, AS.bound, abin, aint, aload, astore, cellsAt, AV.cells, alen, elems, AV.int?, FPost, aresL, ares1, pack, afill, splice, Value.oneCell', Nat.reduceLT, Nat.reduceLeDiff, Nat.reduceEqDiff, Nat.reduceAdd, Nat.reduceMul, Nat.reduceSub, Nat.reduceBEq, Int.reduceLE, Int.reduceLT, Int.reduceToNat, Int.reduceNeg, Int.reduceEq, axt, ftK, ft3, pickP, AScope, AAll, pickQ, ftQ, inHeap, Nd.cells, tys]
      refine ACallK.heap _ rfl (cLsWith hb ok p hp (tNext (b := n + 1) (v := 0) (bx _ _).2 (by omega))) ?_
      rintro v H' n' ⟨rfl, rfl, rfl⟩
      simp (maxSteps := 400000) (dsimp := false) only [p0, hr1, hg, e1, b0, b1, axs, AThen, ABlock, dstsOk, AStep, callsF, AWant, aop, AS.ev, AS.put, upd, AS.bound, abin, aint, aload, astore, cellsAt, AV.cells, alen, elems, AV.int?, FPost, aresL, ares1, pack, afill, splice, Value.oneCell', Nat.reduceLT, Nat.reduceLeDiff, Nat.reduceEqDiff, Nat.reduceAdd, Nat.reduceMul, Nat.reduceSub, Nat.reduceBEq, Int.reduceLE, Int.reduceLT, Int.reduceToNat, Int.reduceNeg, Int.reduceEq, axt, ftK, ft3, pickP, AScope, AAll, pickQ, ftQ, inHeap, Nd.cells, tys]
      exact ⟨_, rfl, rfl, (to1.trans to2).new.new⟩
    · have hj : joinR R w p i = (wth (wth R p (gNext i)) i (gPrev p), w) := by unfold joinR; simp [p0, i0]
      have to2 := LsTo.wth to1.ls ok1 i (gPrev p)
      have hset : rows.set t w = rows := by
        apply List.ext_getElem?
        intro j
        by_cases e : j = t
        · subst e; rw [List.getElem?_set_self hlt, hw]
        · rw [List.getElem?_set_ne (fun hh => e hh.symm)]
      rw [hj, hset]
      refine HCalls.walk Try.func77 rfl rfl Try.ntmps77 Try.results77 (by simp) ?_; simp (maxSteps := 400000) (dsimp := false) only [p0, axs, AThen, ABlock, dstsOk, AStep, callsF, AWant, aop, AS.ev, AS.put, upd, AS.bound, abin, aint, aload, astore, cellsAt, AV.cells, alen, elems, AV.int?, FPost, aresL, ares1, pack, afill, splice, Value.oneCell', Nat.reduceLT, Nat.reduceLeDiff, Nat.reduceEqDiff, Nat.reduceAdd, Nat.reduceMul, Nat.reduceSub, Nat.reduceBEq, Int.reduceLE, Int.reduceLT, Int.reduceToNat, Int.reduceNeg, Int.reduceEq, axt, ftK, ft3, pickP, AScope, AAll, pickQ, ftQ, inHeap, Nd.cells, tys]
      refine ACallK.heap _ rfl (cLsWith hb ok p hp (tNext (b := n + 1) (v := i) (bx _ _).2 (by omega))) ?_
      rintro v H' n' ⟨rfl, rfl, rfl⟩
      simp (maxSteps := 400000) (dsimp := false) only [p0, i0, b0, b1, axs, AThen, ABlock, dstsOk, AStep, callsF, AWant, aop, AS.ev, AS.put, upd, AS.bound, abin, aint, aload, astore, cellsAt, AV.cells, alen, elems, AV.int?, FPost, aresL, ares1, pack, afill, splice, Value.oneCell', Nat.reduceLT, Nat.reduceLeDiff, Nat.reduceEqDiff, Nat.reduceAdd, Nat.reduceMul, Nat.reduceSub, Nat.reduceBEq, Int.reduceLE, Int.reduceLT, Int.reduceToNat, Int.reduceNeg, Int.reduceEq, axt, ftK, ft3, pickP, AScope, AAll, pickQ, ftQ, inHeap, Nd.cells, tys]
      refine ACallK.heap _ rfl (cLsWith to1.ls ok1 i hi (tPrev (b := n) (v := p) b0 (by omega))) ?_
      rintro v H' n' ⟨rfl, rfl, rfl⟩
      simp (maxSteps := 400000) (dsimp := false) only [axs, AThen, ABlock, dstsOk, AStep, callsF, AWant, aop, AS.ev, AS.put, upd, AS.bound, abin, aint, aload, astore, cellsAt, AV.cells, alen, elems, AV.int?, FPost, aresL, ares1, pack, afill, splice, Value.oneCell', Nat.reduceLT, Nat.reduceLeDiff, Nat.reduceEqDiff, Nat.reduceAdd, Nat.reduceMul, Nat.reduceSub, Nat.reduceBEq, Int.reduceLE, Int.reduceLT, Int.reduceToNat, Int.reduceNeg, Int.reduceEq, axt, ftK, ft3, pickP, AScope, AAll, pickQ, ftQ, inHeap, Nd.cells, tys]
      exact ⟨_, rfl, rfl, (to1.trans to2).new.new⟩
end Go.Al
end
section
set_option linter.unusedVariables false
set_option linter.unusedSimpArgs false
set_option maxRecDepth 20000
set_option maxHeartbeats 1600000
-- axs, AThen, ABlock, dstsOk, AStep, callsF, AWant, aop, AS.ev, AS.put, upd, AS.bound, abin, aint, aload, astore, cellsAt, AV.cells, alen, elems, AV.int?, FPost, aresL, ares1, pack, afill, splice, Value.oneCell', Nat.reduceLT, Nat.reduceLeDiff, Nat.reduceEqDiff, Nat.reduceAdd, Nat.reduceMul, Nat.reduceSub, Nat.reduceBEq, Int.reduceLE, Int.reduceLT, Int.reduceToNat, Int.reduceNeg, Int.reduceEq, axt, ftK, ft3, pickP, AScope, AAll, pickQ, ftQ, inHeap, Nd.cells, tys: Nd.cells
namespace Go.Al
open Go.Proofs
def layOk (R : RA) (rows : List Rw) (t i : Int) : Bool := decide (0 ≤ t ∧ t < rows.length) && raIs R i && decide ((raAt R i).tag = 0)
def layS (R : RA) (rows : List Rw) (t p i n : Int) : RA × List Rw :=
  if layOk R rows t i then ((layR R (rows.getD t.toNat r0) t p i n).1, rows.set t.toNat (layR R (rows.getD t.toNat r0) t p i n).2) else (R, rows)
theorem joinR_n (R : RA) (w : Rw) (p i : Int) : (joinR R w p i).2.n = w.n := by
  unfold joinR
  by_cases p0 : p = 0 <;> by_cases i0 : i = 0 <;> simp [p0, i0]
theorem cLsWithT {H : AH} {n L r a s : Nat} {fv : AV} {R : RA} {rows : List Rw} (h : LsH H n L r a s fv R rows) (ok : RaOk R) (i : Int) (hi : I32ok i) {f : Nat} {caps : List AV} {g : Nd → Nd} (hg : Turns H n f caps g) :
    HCalls Try.prog 78 [.ptr L 2 0 0, .sc (.int .i32 i), .fn f caps] H n fun v H' n' => v = .tup [] ∧ LsTo H n L r a s fv H' n' (wth R i g) rows :=
  (cLsWith h ok i hi hg).mono fun v H' n' ⟨e1, e2, e3⟩ => ⟨e1, by rw [e2, e3]; exact LsTo.wth h ok i g⟩
theorem cLsLay {H : AH} {n L r a s : Nat} {fv : AV} {R : RA} {rows : List Rw} (h : LsH H n L r a s fv R rows) (ok : RaOk R) (t p i q : Int) (hp : I32ok p) (hi : I32ok i) (hq : I32ok q) (h0 : 0 ≤ (raAt R i).tag) (h1 : (raAt R i).tag ≤ 1000) (hl : rows.length ≤ 1000)
    (hm : ∀ w ∈ rows, 0 ≤ w.n ∧ w.n ≤ 1000) :
    HCalls Try.prog 76 [.ptr L 2 0 0, .sc (.int .i64 t), .sc (.int .i32 p), .sc (.int .i32 i), .sc (.int .i32 q)] H n fun v H' n' => v = .sc (.bool (layOk R rows t i)) ∧ LsTo H n L r a s fv H' n' (layS R rows t p i q).1 (layS R rows t p i q).2 := by
  have hL := h.hL
  have nL := h.lL
  have nr := h.lr
  have ne1 : ¬ L = n := by omega
  have ne2 : ¬ L = n + 1 := by omega
  have ne3 : ¬ L = n + 2 := by omega
  have hs := h.ar.slt
  have hb := ((h.new (x := some (.obj 3 1 [[.sc (.int .i64 t)]] false))).new (x := some (.obj 21 1 [[.sc (.int .i32 p)]] false))).new (x := some (.obj 21 1 [[.sc (.int .i32 q)]] false))
  by_cases hc : 0 ≤ t ∧ t < rows.length
  · have hpt : lsP r rows.length t = .ptr r 3 t.toNat 0 := if_pos hc
    by_cases his : raIs R i = true
    · by_cases htg : (raAt R i).tag = 0
      · have hlo : layOk R rows t i = true := by unfold layOk; simp [hc, his, htg]
        have htg1 : (raAt R i).tag - 1 = -1 := by omega
        unfold layS
        rw [if_pos hlo, hlo]
        have hlt : t.toNat < rows.length := by omega
        have hw : rows[t.toNat]? = some (rows.getD t.toNat r0) := by rw [List.getD_eq_getElem?_getD, List.getElem?_eq_getElem hlt]; rfl
        have hwm := hm _ (List.mem_of_getElem? hw)
        generalize hwe : rows.getD t.toNat r0 = w at *
        have hb2 := hb.new (x := some (.obj 82 6 [(raAt R i).cells] false))
        have bx0 : ∀ (x y z u : Option AO), (upd (upd (upd (upd H n x) (n + 1) y) (n + 1 + 1) z) (n + 1 + 1 + 1) u) n = x := fun x y z u => by rw [upd_ne _ _ (by omega), upd_ne _ _ (by omega), upd_ne _ _ (by omega), upd_same]
        have bx1 : ∀ (x y z u : Option AO), (upd (upd (upd (upd H n x) (n + 1) y) (n + 1 + 1) z) (n + 1 + 1 + 1) u) (n + 1) = y := fun x y z u => by rw [upd_ne _ _ (by omega), upd_ne _ _ (by omega), upd_same]
        have bx2 : ∀ (x y z u : Option AO), (upd (upd (upd (upd H n x) (n + 1) y) (n + 1 + 1) z) (n + 1 + 1 + 1) u) (n + 1 + 1) = z := fun x y z u => by rw [upd_ne _ _ (by omega), upd_same]
        have ok1 := wth_ok ok i (gLay t p q)
        have ok2 := (joinR_ok ok1 w p i).1
        have hA : layR R w t p i q = ((joinR (joinR (wth R i (gLay t p q)) w p i).1 (joinR (wth R i (gLay t p q)) w p i).2 i q).1, ⟨(joinR (joinR (wth R i (gLay t p q)) w p i).1 (joinR (wth R i (gLay t p q)) w p i).2 i q).2.f, (joinR (joinR (wth R i (gLay t p q)) w p i).1 (joinR (wth R i (gLay t p q)) w p i).2 i q).2.b, (joinR (joinR (wth R i (gLay t p q)) w p i).1 (joinR (wth R i (gLay t p q)) w p i).2 i q).2.n + 1⟩) := rfl
        have cj := fun (H1 : AH) (n1 : Nat) (h1 : LsH H1 n1 L r a s fv (wth R i (gLay t p q)) rows) => cLsJoin h1 ok1 hw p i hp hi
        have hnA := joinR_n (wth R i (gLay t p q)) w p i
        rw [hA]
        generalize joinR (wth R i (gLay t p q)) w p i = A at *
        have hw2 : (rows.set t.toNat A.2)[t.toNat]? = some A.2 := List.getElem?_set_self hlt
        have hnB := (joinR_n A.1 A.2 i q).trans hnA
        refine HCalls.walk Try.func76 rfl rfl Try.ntmps76 Try.results76 (by simp) ?_; simp (maxSteps := 400000) (dsimp := false) only [axs, AThen, ABlock, dstsOk, AStep, callsF, AWant, aop, AS.ev, AS.put, upd, AS.bound, abin, aint, aload, astore, cellsAt, AV.cells, alen, elems, AV.int?, FPost, aresL, ares1, pack, afill, splice, Value.oneCell', Nat.reduceLT, Nat.reduceLeDiff, Nat.reduceEqDiff, Nat.reduceAdd, Nat.reduceMul, Nat.reduceSub, Nat.reduceBEq, Int.reduceLE, Int.reduceLT, Int.reduceToNat, Int.reduceNeg, Int.reduceEq, axt, ftK, ft3, pickP, AScope, AAll, pickQ, ftQ, inHeap, Nd.cells, tys]
        refine ACallK.heap _ rfl (cLsList hb t) ?_; rintro r' H' n' ⟨rfl, eH, en⟩; obtain rfl := eH.symm; obtain rfl := en.symm; clear eH en; simp (maxSteps := 400000) (dsimp := false) only [hpt, hL, ne1, ne2, ne3, axs, AThen, ABlock, dstsOk, AStep, callsF, AWant, aop, AS.ev, AS.put, upd, AS.bound, abin, aint, aload, astore, cellsAt, AV.cells, alen, elems, AV.int?, FPost, aresL, ares1, pack, afill, splice, Value.oneCell', Nat.reduceLT, Nat.reduceLeDiff, Nat.reduceEqDiff, Nat.reduceAdd, Nat.reduceMul, Nat.reduceSub, Nat.reduceBEq, Int.reduceLE, Int.reduceLT, Int.reduceToNat, Int.reduceNeg, Int.reduceEq, axt, ftK, ft3, pickP, AScope, AAll, pickQ, ftQ, inHeap, Nd.cells, tys]
        refine ACallK.heap _ rfl (cRIs hb.ar ok i hi) ?_; rintro r' H' n' ⟨rfl, eH, en⟩; obtain rfl := eH.symm; obtain rfl := en.symm; clear eH en; simp (maxSteps := 400000) (dsimp := false) only [his, axs, AThen, ABlock, dstsOk, AStep, callsF, AWant, aop, AS.ev, AS.put, upd, AS.bound, abin, aint, aload, astore, cellsAt, AV.cells, alen, elems, AV.int?, FPost, aresL, ares1, pack, afill, splice, Value.oneCell', Nat.reduceLT, Nat.reduceLeDiff, Nat.reduceEqDiff, Nat.reduceAdd, Nat.reduceMul, Nat.reduceSub, Nat.reduceBEq, Int.reduceLE, Int.reduceLT, Int.reduceToNat, Int.reduceNeg, Int.reduceEq, axt, ftK, ft3, pickP, AScope, AAll, pickQ, ftQ, inHeap, Nd.cells, tys]
        refine ACallK.heap _ rfl (cLsTag hb ok i hi h0 h1) ?_; rintro r' H' n' ⟨rfl, eH, en⟩; obtain rfl := eH.symm; obtain rfl := en.symm; clear eH en; simp (maxSteps := 400000) (dsimp := false) only [htg1, axs, AThen, ABlock, dstsOk, AStep, callsF, AWant, aop, AS.ev, AS.put, upd, AS.bound, abin, aint, aload, astore, cellsAt, AV.cells, alen, elems, AV.int?, FPost, aresL, ares1, pack, afill, splice, Value.oneCell', Nat.reduceLT, Nat.reduceLeDiff, Nat.reduceEqDiff, Nat.reduceAdd, Nat.reduceMul, Nat.reduceSub, Nat.reduceBEq, Int.reduceLE, Int.reduceLT, Int.reduceToNat, Int.reduceNeg, Int.reduceEq, axt, ftK, ft3, pickP, AScope, AAll, pickQ, ftQ, inHeap, Nd.cells, tys]
        refine ACallK.heap _ rfl (cLsWithT hb2 ok i hi (tLay (b := n) (c := n + 1) (d := n + 1 + 1) (p := p) (q := q) hc.1 (by omega) (bx0 _ _ _ _) (bx1 _ _ _ _) (bx2 _ _ _ _) (by omega) (by omega) (by omega))) ?_
        rintro v H1 n1 ⟨rfl, to1⟩
        have b1 := (to1.keep (n + 1) (by omega) (by omega) (by omega)).trans (bx1 _ _ _ _)
        have b2 := (to1.keep (n + 1 + 1) (by omega) (by omega) (by omega)).trans (bx2 _ _ _ _)
        simp (maxSteps := 400000) (dsimp := false) only [b1, axs, AThen, ABlock, dstsOk, AStep, callsF, AWant, aop, AS.ev, AS.put, upd, AS.bound, abin, aint, aload, astore, cellsAt, AV.cells, alen, elems, AV.int?, FPost, aresL, ares1, pack, afill, splice, Value.oneCell', Nat.reduceLT, Nat.reduceLeDiff, Nat.reduceEqDiff, Nat.reduceAdd, Nat.reduceMul, Nat.reduceSub, Nat.reduceBEq, Int.reduceLE, Int.reduceLT, Int.reduceToNat, Int.reduceNeg, Int.reduceEq, axt, ftK, ft3, pickP, AScope, AAll, pickQ, ftQ, inHeap, Nd.cells, tys]
        refine ACallK.heap _ rfl (cj _ _ to1.ls) ?_
        rintro v H2 n2 ⟨rfl, to2⟩
        have to2 : LsTo H1 n1 L r a s fv H2 n2 A.1 (rows.set t.toNat A.2) := to2
        have b3 := (to2.keep (n + 1 + 1) (by have := to1.le; omega) (by omega) (by omega)).trans b2
        have cj2 := cLsJoin to2.ls ok2 hw2 i q hi hq
        generalize joinR A.1 A.2 i q = B at *
        simp (maxSteps := 400000) (dsimp := false) only [b3, axs, AThen, ABlock, dstsOk, AStep, callsF, AWant, aop, AS.ev, AS.put, upd, AS.bound, abin, aint, aload, astore, cellsAt, AV.cells, alen, elems, AV.int?, FPost, aresL, ares1, pack, afill, splice, Value.oneCell', Nat.reduceLT, Nat.reduceLeDiff, Nat.reduceEqDiff, Nat.reduceAdd, Nat.reduceMul, Nat.reduceSub, Nat.reduceBEq, Int.reduceLE, Int.reduceLT, Int.reduceToNat, Int.reduceNeg, Int.reduceEq, axt, ftK, ft3, pickP, AScope, AAll, pickQ, ftQ, inHeap, Nd.cells, tys]
        refine ACallK.heap _ rfl cj2 ?_
        rintro v H3 n3 ⟨rfl, to3⟩
        have to3 : LsTo H2 n2 L r a s fv H3 n3 B.1 ((rows.set t.toNat A.2).set t.toNat B.2) := to3
        have hw3 : ((rows.set t.toNat A.2).set t.toNat B.2)[t.toNat]? = some B.2 := List.getElem?_set_self (by simp; omega)
        have hg3 := RW_get hw3
        have hr3 := to3.ls.hr
        have wr : IntKind.i64.wrap (B.2.n + 1) = B.2.n + 1 := IntWalk.i64_in _ ⟨by omega, by omega⟩
        have e3 : (RW ((rows.set t.toNat A.2).set t.toNat B.2)).set t.toNat [.sc (.int .i32 B.2.f), .sc (.int .i32 B.2.b), .sc (.int .i64 (B.2.n + 1))] = RW (rows.set t.toNat ⟨B.2.f, B.2.b, B.2.n + 1⟩) := by
          exact (RW_set ((rows.set t.toNat A.2).set t.toNat B.2) t.toNat ⟨B.2.f, B.2.b, B.2.n + 1⟩).trans (by rw [List.set_set, List.set_set])
        have to4 := LsTo.row to3.ls (rows' := rows.set t.toNat ⟨B.2.f, B.2.b, B.2.n + 1⟩) (by simp)
        simp (maxSteps := 400000) (dsimp := false) only [hr3, hg3, wr, e3, axs, AThen, ABlock, dstsOk, AStep, callsF, AWant, aop, AS.ev, AS.put, upd, AS.bound, abin, aint, aload, astore, cellsAt, AV.cells, alen, elems, AV.int?, FPost, aresL, ares1, pack, afill, splice, Value.oneCell', Nat.reduceLT, Nat.reduceLeDiff, Nat.reduceEqDiff, Nat.reduceAdd, Nat.reduceMul, Nat.reduceSub, Nat.reduceBEq, Int.reduceLE, Int.reduceLT, Int.reduceToNat, Int.reduceNeg, Int.reduceEq, axt, ftK, ft3, pickP, AScope, AAll, pickQ, ftQ, inHeap, Nd.cells, tys]
        exact ⟨_, rfl, rfl, ((((to1.trans (to2.trans (to3.trans to4))).new).new).new).new⟩
      · have hlo : layOk R rows t i = false := by unfold layOk; simp [htg]
        have htg1 : ¬ (raAt R i).tag - 1 = -1 := by omega
        unfold layS
        rw [if_neg (by rw [hlo]; simp), hlo]
        refine HCalls.walk Try.func76 rfl rfl Try.ntmps76 Try.results76 (by simp) ?_; simp (maxSteps := 400000) (dsimp := false) only [axs, AThen, ABlock, dstsOk, AStep, callsF, AWant, aop, AS.ev, AS.put, upd, AS.bound, abin, aint, aload, astore, cellsAt, AV.cells, alen, elems, AV.int?, FPost, aresL, ares1, pack, afill, splice, Value.oneCell', Nat.reduceLT, Nat.reduceLeDiff, Nat.reduceEqDiff, Nat.reduceAdd, Nat.reduceMul, Nat.reduceSub, Nat.reduceBEq, Int.reduceLE, Int.reduceLT, Int.reduceToNat, Int.reduceNeg, Int.reduceEq, axt, ftK, ft3, pickP, AScope, AAll, pickQ, ftQ, inHeap, Nd.cells, tys]
        refine ACallK.heap _ rfl (cLsList hb t) ?_; rintro r' H' n' ⟨rfl, eH, en⟩; obtain rfl := eH.symm; obtain rfl := en.symm; clear eH en; simp (maxSteps := 400000) (dsimp := false) only [hpt, hL, ne1, ne2, ne3, axs, AThen, ABlock, dstsOk, AStep, callsF, AWant, aop, AS.ev, AS.put, upd, AS.bound, abin, aint, aload, astore, cellsAt, AV.cells, alen, elems, AV.int?, FPost, aresL, ares1, pack, afill, splice, Value.oneCell', Nat.reduceLT, Nat.reduceLeDiff, Nat.reduceEqDiff, Nat.reduceAdd, Nat.reduceMul, Nat.reduceSub, Nat.reduceBEq, Int.reduceLE, Int.reduceLT, Int.reduceToNat, Int.reduceNeg, Int.reduceEq, axt, ftK, ft3, pickP, AScope, AAll, pickQ, ftQ, inHeap, Nd.cells, tys]
        refine ACallK.heap _ rfl (cRIs hb.ar ok i hi) ?_; rintro r' H' n' ⟨rfl, eH, en⟩; obtain rfl := eH.symm; obtain rfl := en.symm; clear eH en; simp (maxSteps := 400000) (dsimp := false) only [his, axs, AThen, ABlock, dstsOk, AStep, callsF, AWant, aop, AS.ev, AS.put, upd, AS.bound, abin, aint, aload, astore, cellsAt, AV.cells, alen, elems, AV.int?, FPost, aresL, ares1, pack, afill, splice, Value.oneCell', Nat.reduceLT, Nat.reduceLeDiff, Nat.reduceEqDiff, Nat.reduceAdd, Nat.reduceMul, Nat.reduceSub, Nat.reduceBEq, Int.reduceLE, Int.reduceLT, Int.reduceToNat, Int.reduceNeg, Int.reduceEq, axt, ftK, ft3, pickP, AScope, AAll, pickQ, ftQ, inHeap, Nd.cells, tys]
        refine ACallK.heap _ rfl (cLsTag hb ok i hi h0 h1) ?_; rintro r' H' n' ⟨rfl, eH, en⟩; obtain rfl := eH.symm; obtain rfl := en.symm; clear eH en; simp (maxSteps := 400000) (dsimp := false) only [htg1, axs, AThen, ABlock, dstsOk, AStep, callsF, AWant, aop, AS.ev, AS.put, upd, AS.bound, abin, aint, aload, astore, cellsAt, AV.cells, alen, elems, AV.int?, FPost, aresL, ares1, pack, afill, splice, Value.oneCell', Nat.reduceLT, Nat.reduceLeDiff, Nat.reduceEqDiff, Nat.reduceAdd, Nat.reduceMul, Nat.reduceSub, Nat.reduceBEq, Int.reduceLE, Int.reduceLT, Int.reduceToNat, Int.reduceNeg, Int.reduceEq, axt, ftK, ft3, pickP, AScope, AAll, pickQ, ftQ, inHeap, Nd.cells, tys]
        exact ⟨_, rfl, rfl, ((((LsTo.same hb.new).new).new).new).new⟩
    · have his : raIs R i = false := by simpa using his
      have hlo : layOk R rows t i = false := by unfold layOk; simp [his]
      unfold layS
      rw [if_neg (by rw [hlo]; simp), hlo]
      refine HCalls.walk Try.func76 rfl rfl Try.ntmps76 Try.results76 (by simp) ?_; simp (maxSteps := 400000) (dsimp := false) only [axs, AThen, ABlock, dstsOk, AStep, callsF, AWant, aop, AS.ev, AS.put, upd, AS.bound, abin, aint, aload, astore, cellsAt, AV.cells, alen, elems, AV.int?, FPost, aresL, ares1, pack, afill, splice, Value.oneCell', Nat.reduceLT, Nat.reduceLeDiff, Nat.reduceEqDiff, Nat.reduceAdd, Nat.reduceMul, Nat.reduceSub, Nat.reduceBEq, Int.reduceLE, Int.reduceLT, Int.reduceToNat, Int.reduceNeg, Int.reduceEq, axt, ftK, ft3, pickP, AScope, AAll, pickQ, ftQ, inHeap, Nd.cells, tys]
      refine ACallK.heap _ rfl (cLsList hb t) ?_; rintro r' H' n' ⟨rfl, eH, en⟩; obtain rfl := eH.symm; obtain rfl := en.symm; clear eH en; simp (maxSteps := 400000) (dsimp := false) only [hpt, hL, ne1, ne2, ne3, axs, AThen, ABlock, dstsOk, AStep, callsF, AWant, aop, AS.ev, AS.put, upd, AS.bound, abin, aint, aload, astore, cellsAt, AV.cells, alen, elems, AV.int?, FPost, aresL, ares1, pack, afill, splice, Value.oneCell', Nat.reduceLT, Nat.reduceLeDiff, Nat.reduceEqDiff, Nat.reduceAdd, Nat.reduceMul, Nat.reduceSub, Nat.reduceBEq, Int.reduceLE, Int.reduceLT, Int.reduceToNat, Int.reduceNeg, Int.reduceEq, axt, ftK, ft3, pickP, AScope, AAll, pickQ, ftQ, inHeap, Nd.cells, tys]
      refine ACallK.heap _ rfl (cRIs hb.ar ok i hi) ?_; rintro r' H' n' ⟨rfl, eH, en⟩; obtain rfl := eH.symm; obtain rfl := en.symm; clear eH en; simp (maxSteps := 400000) (dsimp := false) only [his, axs, AThen, ABlock, dstsOk, AStep, callsF, AWant, aop, AS.ev, AS.put, upd, AS.bound, abin, aint, aload, astore, cellsAt, AV.cells, alen, elems, AV.int?, FPost, aresL, ares1, pack, afill, splice, Value.oneCell', Nat.reduceLT, Nat.reduceLeDiff, Nat.reduceEqDiff, Nat.reduceAdd, Nat.reduceMul, Nat.reduceSub, Nat.reduceBEq, Int.reduceLE, Int.reduceLT, Int.reduceToNat, Int.reduceNeg, Int.reduceEq, axt, ftK, ft3, pickP, AScope, AAll, pickQ, ftQ, inHeap, Nd.cells, tys]
      exact ⟨_, rfl, rfl, (((LsTo.same hb).new).new).new⟩
  · have hpt : lsP r rows.length t = .sc (.pointer none) := if_neg hc
    have hlo : layOk R rows t i = false := by unfold layOk; simp [hc]
    unfold layS
    rw [if_neg (by rw [hlo]; simp), hlo]
    refine HCalls.walk Try.func76 rfl rfl Try.ntmps76 Try.results76 (by simp) ?_; simp (maxSteps := 400000) (dsimp := false) only [axs, AThen, ABlock, dstsOk, AStep, callsF, AWant, aop, AS.ev, AS.put, upd, AS.bound, abin, aint, aload, astore, cellsAt, AV.cells, alen, elems, AV.int?, FPost, aresL, ares1, pack, afill, splice, Value.oneCell', Nat.reduceLT, Nat.reduceLeDiff, Nat.reduceEqDiff, Nat.reduceAdd, Nat.reduceMul, Nat.reduceSub, Nat.reduceBEq, Int.reduceLE, Int.reduceLT, Int.reduceToNat, Int.reduceNeg, Int.reduceEq, axt, ftK, ft3, pickP, AScope, AAll, pickQ, ftQ, inHeap, Nd.cells, tys]
    refine ACallK.heap _ rfl (cLsList hb t) ?_; rintro r' H' n' ⟨rfl, eH, en⟩; obtain rfl := eH.symm; obtain rfl := en.symm; clear eH en; simp (maxSteps := 400000) (dsimp := false) only [hpt, axs, AThen, ABlock, dstsOk, AStep, callsF, AWant, aop, AS.ev, AS.put, upd, AS.bound, abin, aint, aload, astore, cellsAt, AV.cells, alen, elems, AV.int?, FPost, aresL, ares1, pack, afill, splice, Value.oneCell', Nat.reduceLT, Nat.reduceLeDiff, Nat.reduceEqDiff, Nat.reduceAdd, Nat.reduceMul, Nat.reduceSub, Nat.reduceBEq, Int.reduceLE, Int.reduceLT, Int.reduceToNat, Int.reduceNeg, Int.reduceEq, axt, ftK, ft3, pickP, AScope, AAll, pickQ, ftQ, inHeap, Nd.cells, tys]
    exact ⟨_, rfl, rfl, (((LsTo.same hb).new).new).new⟩
end Go.Al
end
section
set_option linter.unusedVariables false
set_option linter.unusedSimpArgs false
set_option maxRecDepth 20000
set_option maxHeartbeats 1600000
-- axs, AThen, ABlock, dstsOk, AStep, callsF, AWant, aop, AS.ev, AS.put, upd, AS.bound, abin, aint, aload, astore, cellsAt, AV.cells, alen, elems, AV.int?, FPost, aresL, ares1, pack, afill, splice, Value.oneCell', Nat.reduceLT, Nat.reduceLeDiff, Nat.reduceEqDiff, Nat.reduceAdd, Nat.reduceMul, Nat.reduceSub, Nat.reduceBEq, Int.reduceLE, Int.reduceLT, Int.reduceToNat, Int.reduceNeg, Int.reduceEq, axt, ftK, ft3, pickP, AScope, AAll, pickQ, ftQ, inHeap, Nd.cells, tys: Nd.cells
namespace Go.Al
open Go.Proofs
/-- What is told of nodes and rows ahead of an act on place i. -/
structure Fine (R : RA) (rows : List Rw) (i : Int) : Prop where
  ok : RaOk R
  ii : I32ok i
  t0 : 0 ≤ (raAt R i).tag
  t1 : (raAt R i).tag ≤ 1000
  p : I32ok (raAt R i).prev
  q : I32ok (raAt R i).next
  hl : rows.length ≤ 1000
  hm : ∀ w ∈ rows, (0 ≤ w.n ∧ w.n ≤ 1000) ∧ I32ok w.f ∧ I32ok w.b
def frontR (rows : List Rw) (t : Int) : Int := if 0 ≤ t ∧ t < rows.length then (rows.getD t.toNat r0).f else 0
def backR (rows : List Rw) (t : Int) : Int := if 0 ≤ t ∧ t < rows.length then (rows.getD t.toNat r0).b else 0
theorem i32_0 : I32ok 0 := ⟨by omega, by omega⟩
theorem getD_mem {rows : List Rw} {t : Int} (h : 0 ≤ t ∧ t < rows.length) : rows[t.toNat]? = some (rows.getD t.toNat r0) := by
  have hlt : t.toNat < rows.length := by omega
  rw [List.getD_eq_getElem?_getD, List.getElem?_eq_getElem hlt]; rfl
theorem Fine.front {R : RA} {rows : List Rw} {i : Int} (h : Fine R rows i) (t : Int) : I32ok (frontR rows t) := by
  unfold frontR
  split
  · rename_i hc; exact (h.hm _ (List.mem_of_getElem? (getD_mem hc))).2.1
  · exact i32_0
theorem Fine.back {R : RA} {rows : List Rw} {i : Int} (h : Fine R rows i) (t : Int) : I32ok (backR rows t) := by
  unfold backR
  split
  · rename_i hc; exact (h.hm _ (List.mem_of_getElem? (getD_mem hc))).2.2
  · exact i32_0
theorem cLsPushFront {H : AH} {n L r a s : Nat} {fv : AV} {R : RA} {rows : List Rw} (h : LsH H n L r a s fv R rows) (t i : Int) (g : Fine R rows i) :
    HCalls Try.prog 55 [.ptr L 2 0 0, .sc (.int .i64 t), .sc (.int .i32 i)] H n fun v H' n' => v = .sc (.bool (layOk R rows t i)) ∧ LsTo H n L r a s fv H' n' (layS R rows t 0 i (frontR rows t)).1 (layS R rows t 0 i (frontR rows t)).2 := by
  refine HCalls.walk Try.func55 rfl rfl Try.ntmps55 Try.results55 (by simp) ?_; simp (maxSteps := 400000) (dsimp := false) only [axs, AThen, ABlock, dstsOk, AStep, callsF, AWant, aop, AS.ev, AS.put, upd, AS.bound, abin, aint, aload, astore, cellsAt, AV.cells, alen, elems, AV.int?, FPost, aresL, ares1, pack, afill, splice, Value.oneCell', Nat.reduceLT, Nat.reduceLeDiff, Nat.reduceEqDiff, Nat.reduceAdd, Nat.reduceMul, Nat.reduceSub, Nat.reduceBEq, Int.reduceLE, Int.reduceLT, Int.reduceToNat, Int.reduceNeg, Int.reduceEq, axt, ftK, ft3, pickP, AScope, AAll, pickQ, ftQ, inHeap, Nd.cells, tys]
  refine ACallK.heap _ rfl (cLsFront h t) ?_; rintro r' H' n' ⟨rfl, eH, en⟩; obtain rfl := eH.symm; obtain rfl := en.symm; clear eH en; simp (maxSteps := 400000) (dsimp := false) only [axs, AThen, ABlock, dstsOk, AStep, callsF, AWant, aop, AS.ev, AS.put, upd, AS.bound, abin, aint, aload, astore, cellsAt, AV.cells, alen, elems, AV.int?, FPost, aresL, ares1, pack, afill, splice, Value.oneCell', Nat.reduceLT, Nat.reduceLeDiff, Nat.reduceEqDiff, Nat.reduceAdd, Nat.reduceMul, Nat.reduceSub, Nat.reduceBEq, Int.reduceLE, Int.reduceLT, Int.reduceToNat, Int.reduceNeg, Int.reduceEq, axt, ftK, ft3, pickP, AScope, AAll, pickQ, ftQ, inHeap, Nd.cells, tys]
  refine ACallK.heap _ rfl (cLsLay h g.ok t 0 i (frontR rows t) i32_0 g.ii (g.front t) g.t0 g.t1 g.hl fun w hw => (g.hm w hw).1) ?_
  rintro v H' n' ⟨rfl, to⟩
  simp (maxSteps := 400000) (dsimp := false) only [axs, AThen, ABlock, dstsOk, AStep, callsF, AWant, aop, AS.ev, AS.put, upd, AS.bound, abin, aint, aload, astore, cellsAt, AV.cells, alen, elems, AV.int?, FPost, aresL, ares1, pack, afill, splice, Value.oneCell', Nat.reduceLT, Nat.reduceLeDiff, Nat.reduceEqDiff, Nat.reduceAdd, Nat.reduceMul, Nat.reduceSub, Nat.reduceBEq, Int.reduceLE, Int.reduceLT, Int.reduceToNat, Int.reduceNeg, Int.reduceEq, axt, ftK, ft3, pickP, AScope, AAll, pickQ, ftQ, inHeap, Nd.cells, tys]
  exact ⟨_, rfl, rfl, to⟩
theorem cLsPushBack {H : AH} {n L r a s : Nat} {fv : AV} {R : RA} {rows : List Rw} (h : LsH H n L r a s fv R rows) (t i : Int) (g : Fine R rows i) :
    HCalls Try.prog 56 [.ptr L 2 0 0, .sc (.int .i64 t), .sc (.int .i32 i)] H n fun v H' n' => v = .sc (.bool (layOk R rows t i)) ∧ LsTo H n L r a s fv H' n' (layS R rows t (backR rows t) i 0).1 (layS R rows t (backR rows t) i 0).2 := by
  refine HCalls.walk Try.func56 rfl rfl Try.ntmps56 Try.results56 (by simp) ?_; simp (maxSteps := 400000) (dsimp := false) only [axs, AThen, ABlock, dstsOk, AStep, callsF, AWant, aop, AS.ev, AS.put, upd, AS.bound, abin, aint, aload, astore, cellsAt, AV.cells, alen, elems, AV.int?, FPost, aresL, ares1, pack, afill, splice, Value.oneCell', Nat.reduceLT, Nat.reduceLeDiff, Nat.reduceEqDiff, Nat.reduceAdd, Nat.reduceMul, Nat.reduceSub, Nat.reduceBEq, Int.reduceLE, Int.reduceLT, Int.reduceToNat, Int.reduceNeg, Int.reduceEq, axt, ftK, ft3, pickP, AScope, AAll, pickQ, ftQ, inHeap, Nd.cells, tys]
  refine ACallK.heap _ rfl (cLsBack h t) ?_; rintro r' H' n' ⟨rfl, eH, en⟩; obtain rfl := eH.symm; obtain rfl := en.symm; clear eH en; simp (maxSteps := 400000) (dsimp := false) only [axs, AThen, ABlock, dstsOk, AStep, callsF, AWant, aop, AS.ev, AS.put, upd, AS.bound, abin, aint, aload, astore, cellsAt, AV.cells, alen, elems, AV.int?, FPost, aresL, ares1, pack, afill, splice, Value.oneCell', Nat.reduceLT, Nat.reduceLeDiff, Nat.reduceEqDiff, Nat.reduceAdd, Nat.reduceMul, Nat.reduceSub, Nat.reduceBEq, Int.reduceLE, Int.reduceLT, Int.reduceToNat, Int.reduceNeg, Int.reduceEq, axt, ftK, ft3, pickP, AScope, AAll, pickQ, ftQ, inHeap, Nd.cells, tys]
  refine ACallK.heap _ rfl (cLsLay h g.ok t (backR rows t) i 0 (g.back t) g.ii i32_0 g.t0 g.t1 g.hl fun w hw => (g.hm w hw).1) ?_
  rintro v H' n' ⟨rfl, to⟩
  simp (maxSteps := 400000) (dsimp := false) only [axs, AThen, ABlock, dstsOk, AStep, callsF, AWant, aop, AS.ev, AS.put, upd, AS.bound, abin, aint, aload, astore, cellsAt, AV.cells, alen, elems, AV.int?, FPost, aresL, ares1, pack, afill, splice, Value.oneCell', Nat.reduceLT, Nat.reduceLeDiff, Nat.reduceEqDiff, Nat.reduceAdd, Nat.reduceMul, Nat.reduceSub, Nat.reduceBEq, Int.reduceLE, Int.reduceLT, Int.reduceToNat, Int.reduceNeg, Int.reduceEq, axt, ftK, ft3, pickP, AScope, AAll, pickQ, ftQ, inHeap, Nd.cells, tys]
  exact ⟨_, rfl, rfl, to⟩
def offOk (R : RA) (rows : List Rw) (i : Int) : Bool := decide (1 ≤ (raAt R i).tag ∧ (raAt R i).tag - 1 < rows.length)
def offS (R : RA) (rows : List Rw) (i : Int) : RA × List Rw :=
  if offOk R rows i then ((offR R (rows.getD ((raAt R i).tag - 1).toNat r0) i).1, rows.set ((raAt R i).tag - 1).toNat (offR R (rows.getD ((raAt R i).tag - 1).toNat r0) i).2) else (R, rows)
theorem cLsRemove {H : AH} {n L r a s : Nat} {fv : AV} {R : RA} {rows : List Rw} (h : LsH H n L r a s fv R rows) (i : Int) (g : Fine R rows i) :
    HCalls Try.prog 58 [.ptr L 2 0 0, .sc (.int .i32 i)] H n fun v H' n' => v = .sc (.bool (offOk R rows i)) ∧ LsTo H n L r a s fv H' n' (offS R rows i).1 (offS R rows i).2 := by
  have hL := h.hL
  have nL := h.lL
  have nr := h.lr
  have ne1 : ¬ L = n := by omega
  have ne2 : ¬ L = n + 1 := by omega
  have ne3 : ¬ L = n + 2 := by omega
  have ok := g.ok
  have hi := g.ii
  have hs := h.ar.slt
  have h1 := h.new (x := some (.obj 82 6 [(raAt R i).cells] false))
  by_cases hc : 1 ≤ (raAt R i).tag ∧ (raAt R i).tag - 1 < rows.length
  · have hlo : offOk R rows i = true := decide_eq_true hc
    have hc' : 0 ≤ (raAt R i).tag - 1 ∧ (raAt R i).tag - 1 < rows.length := ⟨by omega, hc.2⟩
    have hp : lsP r rows.length ((raAt R i).tag - 1) = .ptr r 3 ((raAt R i).tag - 1).toNat 0 := if_pos hc'
    have hw := getD_mem hc'
    have hwm := g.hm _ (List.mem_of_getElem? hw)
    have hlt : ((raAt R i).tag - 1).toNat < rows.length := by omega
    unfold offS
    rw [if_pos hlo, hlo]
    have hA : offR R (rows.getD ((raAt R i).tag - 1).toNat r0) i = (wth (joinR R (rows.getD ((raAt R i).tag - 1).toNat r0) (raAt R i).prev (raAt R i).next).1 i gOff, ⟨(joinR R (rows.getD ((raAt R i).tag - 1).toNat r0) (raAt R i).prev (raAt R i).next).2.f, (joinR R (rows.getD ((raAt R i).tag - 1).toNat r0) (raAt R i).prev (raAt R i).next).2.b, (joinR R (rows.getD ((raAt R i).tag - 1).toNat r0) (raAt R i).prev (raAt R i).next).2.n - 1⟩) := rfl
    rw [hA]
    generalize hwe : rows.getD ((raAt R i).tag - 1).toNat r0 = w at *
    have h3 := (h1.new (x := some (.obj 82 6 [(raAt R i).cells] false))).new (x := some (.obj 82 6 [(raAt R i).cells] false))
    have cj := cLsJoin h3 ok hw (raAt R i).prev (raAt R i).next g.p g.q
    have ok2 := (joinR_ok ok w (raAt R i).prev (raAt R i).next).1
    have hnA := joinR_n R w (raAt R i).prev (raAt R i).next
    generalize joinR R w (raAt R i).prev (raAt R i).next = A at *
    refine HCalls.walk Try.func58 rfl rfl Try.ntmps58 Try.results58 (by simp) ?_; simp (maxSteps := 400000) (dsimp := false) only [axs, AThen, ABlock, dstsOk, AStep, callsF, AWant, aop, AS.ev, AS.put, upd, AS.bound, abin, aint, aload, astore, cellsAt, AV.cells, alen, elems, AV.int?, FPost, aresL, ares1, pack, afill, splice, Value.oneCell', Nat.reduceLT, Nat.reduceLeDiff, Nat.reduceEqDiff, Nat.reduceAdd, Nat.reduceMul, Nat.reduceSub, Nat.reduceBEq, Int.reduceLE, Int.reduceLT, Int.reduceToNat, Int.reduceNeg, Int.reduceEq, axt, ftK, ft3, pickP, AScope, AAll, pickQ, ftQ, inHeap, Nd.cells, tys]
    refine ACallK.heap _ rfl (cLsTag h ok i hi g.t0 g.t1) ?_; rintro r' H' n' ⟨rfl, eH, en⟩; obtain rfl := eH.symm; obtain rfl := en.symm; clear eH en; simp (maxSteps := 400000) (dsimp := false) only [axs, AThen, ABlock, dstsOk, AStep, callsF, AWant, aop, AS.ev, AS.put, upd, AS.bound, abin, aint, aload, astore, cellsAt, AV.cells, alen, elems, AV.int?, FPost, aresL, ares1, pack, afill, splice, Value.oneCell', Nat.reduceLT, Nat.reduceLeDiff, Nat.reduceEqDiff, Nat.reduceAdd, Nat.reduceMul, Nat.reduceSub, Nat.reduceBEq, Int.reduceLE, Int.reduceLT, Int.reduceToNat, Int.reduceNeg, Int.reduceEq, axt, ftK, ft3, pickP, AScope, AAll, pickQ, ftQ, inHeap, Nd.cells, tys]
    refine ACallK.heap _ rfl (cLsList h1 ((raAt R i).tag - 1)) ?_; rintro r' H' n' ⟨rfl, eH, en⟩; obtain rfl := eH.symm; obtain rfl := en.symm; clear eH en; simp (maxSteps := 400000) (dsimp := false) only [hp, hL, ne1, ne2, ne3, axs, AThen, ABlock, dstsOk, AStep, callsF, AWant, aop, AS.ev, AS.put, upd, AS.bound, abin, aint, aload, astore, cellsAt, AV.cells, alen, elems, AV.int?, FPost, aresL, ares1, pack, afill, splice, Value.oneCell', Nat.reduceLT, Nat.reduceLeDiff, Nat.reduceEqDiff, Nat.reduceAdd, Nat.reduceMul, Nat.reduceSub, Nat.reduceBEq, Int.reduceLE, Int.reduceLT, Int.reduceToNat, Int.reduceNeg, Int.reduceEq, axt, ftK, ft3, pickP, AScope, AAll, pickQ, ftQ, inHeap, Nd.cells, tys]
    refine ACallK.heap _ rfl (cRAt h1.ar ok i hi) ?_; rintro r' H' n' ⟨rfl, eH, en⟩; obtain rfl := eH.symm; obtain rfl := en.symm; clear eH en; simp (maxSteps := 400000) (dsimp := false) only [hL, ne1, ne2, ne3, upd_upd, axs, AThen, ABlock, dstsOk, AStep, callsF, AWant, aop, AS.ev, AS.put, upd, AS.bound, abin, aint, aload, astore, cellsAt, AV.cells, alen, elems, AV.int?, FPost, aresL, ares1, pack, afill, splice, Value.oneCell', Nat.reduceLT, Nat.reduceLeDiff, Nat.reduceEqDiff, Nat.reduceAdd, Nat.reduceMul, Nat.reduceSub, Nat.reduceBEq, Int.reduceLE, Int.reduceLT, Int.reduceToNat, Int.reduceNeg, Int.reduceEq, axt, ftK, ft3, pickP, AScope, AAll, pickQ, ftQ, inHeap, Nd.cells, tys]
    refine ACallK.heap _ rfl cj ?_
    rintro v H2 n2 ⟨rfl, to2⟩
    have to2 : LsTo _ (n + 1 + 1 + 1) L r a s fv H2 n2 A.1 (rows.set ((raAt R i).tag - 1).toNat A.2) := to2
    have hw3 : (rows.set ((raAt R i).tag - 1).toNat A.2)[((raAt R i).tag - 1).toNat]? = some A.2 := List.getElem?_set_self hlt
    have hg3 := RW_get hw3
    have hr3 := to2.ls.hr
    have wr : IntKind.i64.wrap (A.2.n - 1) = A.2.n - 1 := IntWalk.i64_in _ ⟨by omega, by omega⟩
    have e3 : (RW (rows.set ((raAt R i).tag - 1).toNat A.2)).set ((raAt R i).tag - 1).toNat [.sc (.int .i32 A.2.f), .sc (.int .i32 A.2.b), .sc (.int .i64 (A.2.n - 1))] = RW (rows.set ((raAt R i).tag - 1).toNat ⟨A.2.f, A.2.b, A.2.n - 1⟩) :=
      (RW_set (rows.set ((raAt R i).tag - 1).toNat A.2) ((raAt R i).tag - 1).toNat ⟨A.2.f, A.2.b, A.2.n - 1⟩).trans (by rw [List.set_set])
    have to3 := LsTo.row to2.ls (rows' := rows.set ((raAt R i).tag - 1).toNat ⟨A.2.f, A.2.b, A.2.n - 1⟩) (by simp)
    simp (maxSteps := 400000) (dsimp := false) only [hr3, hg3, wr, e3, axs, AThen, ABlock, dstsOk, AStep, callsF, AWant, aop, AS.ev, AS.put, upd, AS.bound, abin, aint, aload, astore, cellsAt, AV.cells, alen, elems, AV.int?, FPost, aresL, ares1, pack, afill, splice, Value.oneCell', Nat.reduceLT, Nat.reduceLeDiff, Nat.reduceEqDiff, Nat.reduceAdd, Nat.reduceMul, Nat.reduceSub, Nat.reduceBEq, Int.reduceLE, Int.reduceLT, Int.reduceToNat, Int.reduceNeg, Int.reduceEq, axt, ftK, ft3, pickP, AScope, AAll, pickQ, ftQ, inHeap, Nd.cells, tys]
    refine ACallK.heap _ rfl (cLsWithT to3.ls ok2 i hi tOff) ?_
    rintro v H4 n4 ⟨rfl, to4⟩
    simp (maxSteps := 400000) (dsimp := false) only [axs, AThen, ABlock, dstsOk, AStep, callsF, AWant, aop, AS.ev, AS.put, upd, AS.bound, abin, aint, aload, astore, cellsAt, AV.cells, alen, elems, AV.int?, FPost, aresL, ares1, pack, afill, splice, Value.oneCell', Nat.reduceLT, Nat.reduceLeDiff, Nat.reduceEqDiff, Nat.reduceAdd, Nat.reduceMul, Nat.reduceSub, Nat.reduceBEq, Int.reduceLE, Int.reduceLT, Int.reduceToNat, Int.reduceNeg, Int.reduceEq, axt, ftK, ft3, pickP, AScope, AAll, pickQ, ftQ, inHeap, Nd.cells, tys]
    exact ⟨_, rfl, rfl, (((to2.trans (to3.trans to4)).new).new).new⟩
  · have hlo : offOk R rows i = false := decide_eq_false hc
    have hp : lsP r rows.length ((raAt R i).tag - 1) = .sc (.pointer none) := if_neg (by omega)
    unfold offS
    rw [if_neg (by rw [hlo]; simp), hlo]
    refine HCalls.walk Try.func58 rfl rfl Try.ntmps58 Try.results58 (by simp) ?_; simp (maxSteps := 400000) (dsimp := false) only [axs, AThen, ABlock, dstsOk, AStep, callsF, AWant, aop, AS.ev, AS.put, upd, AS.bound, abin, aint, aload, astore, cellsAt, AV.cells, alen, elems, AV.int?, FPost, aresL, ares1, pack, afill, splice, Value.oneCell', Nat.reduceLT, Nat.reduceLeDiff, Nat.reduceEqDiff, Nat.reduceAdd, Nat.reduceMul, Nat.reduceSub, Nat.reduceBEq, Int.reduceLE, Int.reduceLT, Int.reduceToNat, Int.reduceNeg, Int.reduceEq, axt, ftK, ft3, pickP, AScope, AAll, pickQ, ftQ, inHeap, Nd.cells, tys]
    refine ACallK.heap _ rfl (cLsTag h ok i hi g.t0 g.t1) ?_; rintro r' H' n' ⟨rfl, eH, en⟩; obtain rfl := eH.symm; obtain rfl := en.symm; clear eH en; simp (maxSteps := 400000) (dsimp := false) only [axs, AThen, ABlock, dstsOk, AStep, callsF, AWant, aop, AS.ev, AS.put, upd, AS.bound, abin, aint, aload, astore, cellsAt, AV.cells, alen, elems, AV.int?, FPost, aresL, ares1, pack, afill, splice, Value.oneCell', Nat.reduceLT, Nat.reduceLeDiff, Nat.reduceEqDiff, Nat.reduceAdd, Nat.reduceMul, Nat.reduceSub, Nat.reduceBEq, Int.reduceLE, Int.reduceLT, Int.reduceToNat, Int.reduceNeg, Int.reduceEq, axt, ftK, ft3, pickP, AScope, AAll, pickQ, ftQ, inHeap, Nd.cells, tys]
    refine ACallK.heap _ rfl (cLsList h1 ((raAt R i).tag - 1)) ?_; rintro r' H' n' ⟨rfl, eH, en⟩; obtain rfl := eH.symm; obtain rfl := en.symm; clear eH en; simp (maxSteps := 400000) (dsimp := false) only [hp, axs, AThen, ABlock, dstsOk, AStep, callsF, AWant, aop, AS.ev, AS.put, upd, AS.bound, abin, aint, aload, astore, cellsAt, AV.cells, alen, elems, AV.int?, FPost, aresL, ares1, pack, afill, splice, Value.oneCell', Nat.reduceLT, Nat.reduceLeDiff, Nat.reduceEqDiff, Nat.reduceAdd, Nat.reduceMul, Nat.reduceSub, Nat.reduceBEq, Int.reduceLE, Int.reduceLT, Int.reduceToNat, Int.reduceNeg, Int.reduceEq, axt, ftK, ft3, pickP, AScope, AAll, pickQ, ftQ, inHeap, Nd.cells, tys]
    exact ⟨_, rfl, rfl, (LsTo.same h1).new⟩
def mvOk (R : RA) (rows : List Rw) (t i : Int) : Bool := decide (0 ≤ t ∧ t < rows.length) && (offOk R rows i && layOk (offS R rows i).1 (offS R rows i).2 t i)
def mvS (R : RA) (rows : List Rw) (t i : Int) : RA × List Rw :=
  if 0 ≤ t ∧ t < rows.length then (if offOk R rows i then layS (offS R rows i).1 (offS R rows i).2 t 0 i (frontR (offS R rows i).2 t) else (R, rows)) else (R, rows)
theorem cLsMove {H : AH} {n L r a s : Nat} {fv : AV} {R : RA} {rows : List Rw} (h : LsH H n L r a s fv R rows) (t i : Int) (g : Fine R rows i) (g2 : Fine (offS R rows i).1 (offS R rows i).2 i) :
    HCalls Try.prog 57 [.ptr L 2 0 0, .sc (.int .i64 t), .sc (.int .i32 i)] H n fun v H' n' => v = .sc (.bool (mvOk R rows t i)) ∧ LsTo H n L r a s fv H' n' (mvS R rows t i).1 (mvS R rows t i).2 := by
  by_cases hc : 0 ≤ t ∧ t < rows.length
  · have hp : lsP r rows.length t = .ptr r 3 t.toNat 0 := if_pos hc
    by_cases ho : offOk R rows i = true
    · have hk : mvOk R rows t i = layOk (offS R rows i).1 (offS R rows i).2 t i := by unfold mvOk; simp [hc, ho]
      have hS : mvS R rows t i = layS (offS R rows i).1 (offS R rows i).2 t 0 i (frontR (offS R rows i).2 t) := by unfold mvS; rw [if_pos hc, if_pos ho]
      rw [hk, hS]
      refine HCalls.walk Try.func57 rfl rfl Try.ntmps57 Try.results57 (by simp) ?_; simp (maxSteps := 400000) (dsimp := false) only [axs, AThen, ABlock, dstsOk, AStep, callsF, AWant, aop, AS.ev, AS.put, upd, AS.bound, abin, aint, aload, astore, cellsAt, AV.cells, alen, elems, AV.int?, FPost, aresL, ares1, pack, afill, splice, Value.oneCell', Nat.reduceLT, Nat.reduceLeDiff, Nat.reduceEqDiff, Nat.reduceAdd, Nat.reduceMul, Nat.reduceSub, Nat.reduceBEq, Int.reduceLE, Int.reduceLT, Int.reduceToNat, Int.reduceNeg, Int.reduceEq, axt, ftK, ft3, pickP, AScope, AAll, pickQ, ftQ, inHeap, Nd.cells, tys]
      refine ACallK.heap _ rfl (cLsList h t) ?_; rintro r' H' n' ⟨rfl, eH, en⟩; obtain rfl := eH.symm; obtain rfl := en.symm; clear eH en; simp (maxSteps := 400000) (dsimp := false) only [hp, axs, AThen, ABlock, dstsOk, AStep, callsF, AWant, aop, AS.ev, AS.put, upd, AS.bound, abin, aint, aload, astore, cellsAt, AV.cells, alen, elems, AV.int?, FPost, aresL, ares1, pack, afill, splice, Value.oneCell', Nat.reduceLT, Nat.reduceLeDiff, Nat.reduceEqDiff, Nat.reduceAdd, Nat.reduceMul, Nat.reduceSub, Nat.reduceBEq, Int.reduceLE, Int.reduceLT, Int.reduceToNat, Int.reduceNeg, Int.reduceEq, axt, ftK, ft3, pickP, AScope, AAll, pickQ, ftQ, inHeap, Nd.cells, tys]
      refine ACallK.heap _ rfl (cLsRemove h i g) ?_
      rintro v H2 n2 ⟨rfl, to2⟩
      simp (maxSteps := 400000) (dsimp := false) only [ho, axs, AThen, ABlock, dstsOk, AStep, callsF, AWant, aop, AS.ev, AS.put, upd, AS.bound, abin, aint, aload, astore, cellsAt, AV.cells, alen, elems, AV.int?, FPost, aresL, ares1, pack, afill, splice, Value.oneCell', Nat.reduceLT, Nat.reduceLeDiff, Nat.reduceEqDiff, Nat.reduceAdd, Nat.reduceMul, Nat.reduceSub, Nat.reduceBEq, Int.reduceLE, Int.reduceLT, Int.reduceToNat, Int.reduceNeg, Int.reduceEq, axt, ftK, ft3, pickP, AScope, AAll, pickQ, ftQ, inHeap, Nd.cells, tys]
      refine ACallK.heap _ rfl (cLsPushFront to2.ls t i g2) ?_
      rintro v H3 n3 ⟨rfl, to3⟩
      simp (maxSteps := 400000) (dsimp := false) only [axs, AThen, ABlock, dstsOk, AStep, callsF, AWant, aop, AS.ev, AS.put, upd, AS.bound, abin, aint, aload, astore, cellsAt, AV.cells, alen, elems, AV.int?, FPost, aresL, ares1, pack, afill, splice, Value.oneCell', Nat.reduceLT, Nat.reduceLeDiff, Nat.reduceEqDiff, Nat.reduceAdd, Nat.reduceMul, Nat.reduceSub, Nat.reduceBEq, Int.reduceLE, Int.reduceLT, Int.reduceToNat, Int.reduceNeg, Int.reduceEq, axt, ftK, ft3, pickP, AScope, AAll, pickQ, ftQ, inHeap, Nd.cells, tys]
      exact ⟨_, rfl, rfl, to2.trans to3⟩
    · have ho : offOk R rows i = false := by simpa using ho
      have hk : mvOk R rows t i = false := by unfold mvOk; simp [ho]
      have hS : mvS R rows t i = (R, rows) := by unfold mvS; rw [if_pos hc, if_neg (by rw [ho]; simp)]
      have hO : offS R rows i = (R, rows) := by unfold offS; rw [if_neg (by rw [ho]; simp)]
      rw [hk, hS]
      refine HCalls.walk Try.func57 rfl rfl Try.ntmps57 Try.results57 (by simp) ?_; simp (maxSteps := 400000) (dsimp := false) only [axs, AThen, ABlock, dstsOk, AStep, callsF, AWant, aop, AS.ev, AS.put, upd, AS.bound, abin, aint, aload, astore, cellsAt, AV.cells, alen, elems, AV.int?, FPost, aresL, ares1, pack, afill, splice, Value.oneCell', Nat.reduceLT, Nat.reduceLeDiff, Nat.reduceEqDiff, Nat.reduceAdd, Nat.reduceMul, Nat.reduceSub, Nat.reduceBEq, Int.reduceLE, Int.reduceLT, Int.reduceToNat, Int.reduceNeg, Int.reduceEq, axt, ftK, ft3, pickP, AScope, AAll, pickQ, ftQ, inHeap, Nd.cells, tys]
      refine ACallK.heap _ rfl (cLsList h t) ?_; rintro r' H' n' ⟨rfl, eH, en⟩; obtain rfl := eH.symm; obtain rfl := en.symm; clear eH en; simp (maxSteps := 400000) (dsimp := false) only [hp, axs, AThen, ABlock, dstsOk, AStep, callsF, AWant, aop, AS.ev, AS.put, upd, AS.bound, abin, aint, aload, astore, cellsAt, AV.cells, alen, elems, AV.int?, FPost, aresL, ares1, pack, afill, splice, Value.oneCell', Nat.reduceLT, Nat.reduceLeDiff, Nat.reduceEqDiff, Nat.reduceAdd, Nat.reduceMul, Nat.reduceSub, Nat.reduceBEq, Int.reduceLE, Int.reduceLT, Int.reduceToNat, Int.reduceNeg, Int.reduceEq, axt, ftK, ft3, pickP, AScope, AAll, pickQ, ftQ, inHeap, Nd.cells, tys]
      refine ACallK.heap _ rfl (cLsRemove h i g) ?_
      rintro v H2 n2 ⟨rfl, to2⟩
      rw [hO] at to2
      simp (maxSteps := 400000) (dsimp := false) only [ho, axs, AThen, ABlock, dstsOk, AStep, callsF, AWant, aop, AS.ev, AS.put, upd, AS.bound, abin, aint, aload, astore, cellsAt, AV.cells, alen, elems, AV.int?, FPost, aresL, ares1, pack, afill, splice, Value.oneCell', Nat.reduceLT, Nat.reduceLeDiff, Nat.reduceEqDiff, Nat.reduceAdd, Nat.reduceMul, Nat.reduceSub, Nat.reduceBEq, Int.reduceLE, Int.reduceLT, Int.reduceToNat, Int.reduceNeg, Int.reduceEq, axt, ftK, ft3, pickP, AScope, AAll, pickQ, ftQ, inHeap, Nd.cells, tys]
      exact ⟨_, rfl, rfl, to2⟩
  · have hp : lsP r rows.length t = .sc (.pointer none) := if_neg hc
    have hk : mvOk R rows t i = false := by unfold mvOk; simp [hc]
    have hS : mvS R rows t i = (R, rows) := by unfold mvS; rw [if_neg hc]
    rw [hk, hS]
    refine HCalls.walk Try.func57 rfl rfl Try.ntmps57 Try.results57 (by simp) ?_; simp (maxSteps := 400000) (dsimp := false) only [axs, AThen, ABlock, dstsOk, AStep, callsF, AWant, aop, AS.ev, AS.put, upd, AS.bound, abin, aint, aload, astore, cellsAt, AV.cells, alen, elems, AV.int?, FPost, aresL, ares1, pack, afill, splice, Value.oneCell', Nat.reduceLT, Nat.reduceLeDiff, Nat.reduceEqDiff, Nat.reduceAdd, Nat.reduceMul, Nat.reduceSub, Nat.reduceBEq, Int.reduceLE, Int.reduceLT, Int.reduceToNat, Int.reduceNeg, Int.reduceEq, axt, ftK, ft3, pickP, AScope, AAll, pickQ, ftQ, inHeap, Nd.cells, tys]
    refine ACallK.heap _ rfl (cLsList h t) ?_; rintro r' H' n' ⟨rfl, eH, en⟩; obtain rfl := eH.symm; obtain rfl := en.symm; clear eH en; simp (maxSteps := 400000) (dsimp := false) only [hp, axs, AThen, ABlock, dstsOk, AStep, callsF, AWant, aop, AS.ev, AS.put, upd, AS.bound, abin, aint, aload, astore, cellsAt, AV.cells, alen, elems, AV.int?, FPost, aresL, ares1, pack, afill, splice, Value.oneCell', Nat.reduceLT, Nat.reduceLeDiff, Nat.reduceEqDiff, Nat.reduceAdd, Nat.reduceMul, Nat.reduceSub, Nat.reduceBEq, Int.reduceLE, Int.reduceLT, Int.reduceToNat, Int.reduceNeg, Int.reduceEq, axt, ftK, ft3, pickP, AScope, AAll, pickQ, ftQ, inHeap, Nd.cells, tys]
    exact ⟨_, rfl, rfl, LsTo.same h⟩
end Go.Al
end
section
set_option linter.unusedVariables false
set_option linter.unusedSimpArgs false
set_option maxHeartbeats 1600000
namespace Go.Al
theorem sub_len : ∀ (a b : List Int), a.Nodup → (∀ x ∈ a, x ∈ b) → a.length ≤ b.length
  | [], b, _, _ => by simp
  | x :: a, b, hn, hs => by
    have hx := hs x (by simp)
    have h := sub_len a (b.erase x) (List.nodup_cons.1 hn).2 (fun y hy => by
      have hne : y ≠ x := fun e => (List.nodup_cons.1 hn).1 (by rw [← e]; exact hy)
      exact (List.mem_erase_of_ne hne).2 (hs y (by simp [hy])))
    have h1 := List.length_erase_of_mem hx
    have h2 := List.length_pos_of_mem hx
    simp only [List.length_cons]
    omega
/-- How many of the first k places have a list's tag. -/
def cntT (R : RA) (k : Nat) : Nat := ((List.range k).filter (fun j : Nat => decide (0 < (raAt R ((j : Int) + 1)).tag))).length
theorem cntT_succ (R : RA) (k : Nat) : cntT R (k + 1) = cntT R k + if 0 < (raAt R ((k : Int) + 1)).tag then 1 else 0 := by
  unfold cntT
  rw [List.range_succ, List.filter_append, List.length_append]
  by_cases h : 0 < (raAt R ((k : Int) + 1)).tag <;> simp [h]
theorem cntT_le (R : RA) (k : Nat) : cntT R k ≤ k := by
  unfold cntT
  have := List.length_filter_le (fun j : Nat => decide (0 < (raAt R ((j : Int) + 1)).tag)) (List.range k)
  simpa using this
theorem cntT_all {R : RA} {rows : List Rw} {ls : List (List Int)} (h : LInv R rows ls) (h3 : ls.length ≤ 3) {m : Nat} (he : R.ever = m) :
    cntT R m = (ls.getD 0 []).length + (ls.getD 1 []).length + (ls.getD 2 []).length := by
  have get : ∀ (t : Nat) (x : Int), x ∈ ls.getD t [] → ∃ l, ls[t]? = some l ∧ x ∈ l ∧ ls.getD t [] = l := by
    intro t x hx
    rw [List.getD_eq_getElem?_getD] at hx ⊢
    cases e : ls[t]? with
    | none => rw [e] at hx; simp at hx
    | some l => rw [e] at hx; exact ⟨l, rfl, hx, rfl⟩
  have nd : ∀ t : Nat, (ls.getD t []).Nodup := by
    intro t
    rw [List.getD_eq_getElem?_getD]
    cases e : ls[t]? with
    | none => simp
    | some l => exact h.one t l e
  have dis : ∀ (t u : Nat), t ≠ u → ∀ x ∈ ls.getD t [], ∀ y ∈ ls.getD u [], x ≠ y := by
    intro t u htu x hx y hy e
    obtain ⟨l, h1, h2, _⟩ := get t x hx
    obtain ⟨m, k1, k2, _⟩ := get u y hy
    exact htu (h.apart t u l m h1 k1 x h2 (by rw [e]; exact k2))
  have hA : (ls.getD 0 [] ++ ls.getD 1 [] ++ ls.getD 2 []).Nodup := by
    rw [List.nodup_append, List.nodup_append]
    refine ⟨⟨nd 0, nd 1, dis 0 1 (by omega)⟩, nd 2, fun x hx y hy => ?_⟩
    rcases List.mem_append.1 hx with hx | hx
    · exact dis 0 2 (by omega) x hx y hy
    · exact dis 1 2 (by omega) x hx y hy
  have hB : (((List.range m).filter (fun j : Nat => decide (0 < (raAt R ((j : Int) + 1)).tag))).map (fun j : Nat => (j : Int) + 1)).Nodup := by
    refine List.Pairwise.map _ (fun a b hab e => hab ?_) ((List.nodup_range (n := m)).filter _)
    omega
  have hAB : ∀ x ∈ ls.getD 0 [] ++ ls.getD 1 [] ++ ls.getD 2 [], x ∈ ((List.range m).filter (fun j : Nat => decide (0 < (raAt R ((j : Int) + 1)).tag))).map (fun j : Nat => (j : Int) + 1) := by
    have one : ∀ (t : Nat) (x : Int), x ∈ ls.getD t [] → x ∈ ((List.range m).filter (fun j : Nat => decide (0 < (raAt R ((j : Int) + 1)).tag))).map (fun j : Nat => (j : Int) + 1) := by
      intro t x hx
      obtain ⟨l, h1, h2, _⟩ := get t x hx
      obtain ⟨g0, g1, _⟩ := ra_rng h.ok (h.live t l h1 x h2)
      obtain ⟨p, hp⟩ := List.getElem?_of_mem h2
      have ht := (h.node t l h1 p x hp).1
      refine List.mem_map.2 ⟨(x - 1).toNat, List.mem_filter.2 ⟨List.mem_range.2 (by omega), ?_⟩, by omega⟩
      have e : (((x - 1).toNat : Nat) : Int) + 1 = x := by omega
      rw [e, ht]
      exact decide_eq_true (by omega)
    intro x hx
    rcases List.mem_append.1 hx with hx | hx
    · rcases List.mem_append.1 hx with hx | hx
      · exact one 0 x hx
      · exact one 1 x hx
    · exact one 2 x hx
  have hBA : ∀ x ∈ ((List.range m).filter (fun j : Nat => decide (0 < (raAt R ((j : Int) + 1)).tag))).map (fun j : Nat => (j : Int) + 1), x ∈ ls.getD 0 [] ++ ls.getD 1 [] ++ ls.getD 2 [] := by
    intro x hx
    obtain ⟨j, hj, rfl⟩ := List.mem_map.1 hx
    have htag := of_decide_eq_true (List.mem_filter.1 hj).2
    by_cases hin : ∀ (t : Nat) (l : List Int), ls[t]? = some l → ((j : Int) + 1) ∉ l
    · have := (h.none _ hin).1
      omega
    · have ⟨t, l, h1, h2⟩ : ∃ (t : Nat) (l : List Int), ls[t]? = some l ∧ ((j : Int) + 1) ∈ l := by
        refine Classical.byContradiction fun hno => hin fun t l h1 h2 => hno ⟨t, l, h1, h2⟩
      have hlt := (List.getElem?_eq_some_iff.1 h1).1
      have hg : ls.getD t [] = l := by rw [List.getD_eq_getElem?_getD, h1]; rfl
      rcases (show t = 0 ∨ t = 1 ∨ t = 2 by omega) with rfl | rfl | rfl
      · exact List.mem_append_left _ (List.mem_append_left _ (by rw [hg]; exact h2))
      · exact List.mem_append_left _ (List.mem_append_right _ (by rw [hg]; exact h2))
      · exact List.mem_append_right _ (by rw [hg]; exact h2)
  have l1 := sub_len _ _ hA hAB
  have l2 := sub_len _ _ hB hBA
  simp only [List.length_append, List.length_map] at l1 l2
  unfold cntT
  omega
end Go.Al
end
section
set_option linter.unusedVariables false
set_option linter.unusedSimpArgs false
set_option maxHeartbeats 1600000
namespace Go.Al
/-- What acts on lists leave of an arena. -/
structure Same (R R' : RA) : Prop where
  len : R'.len = R.len
  ever : R'.ever = R.ever
  freed : R'.freed = R.freed
  kvf : ∀ k, (raAt R' k).key = (raAt R k).key ∧ (raAt R' k).val = (raAt R k).val ∧ (raAt R' k).flag = (raAt R k).flag
theorem Same.refl (R : RA) : Same R R := ⟨rfl, rfl, rfl, fun _ => ⟨rfl, rfl, rfl⟩⟩
theorem Same.trans {R R' R'' : RA} (a : Same R R') (b : Same R' R'') : Same R R'' :=
  ⟨b.len.trans a.len, b.ever.trans a.ever, b.freed.trans a.freed, fun k => ⟨(b.kvf k).1.trans (a.kvf k).1, (b.kvf k).2.1.trans (a.kvf k).2.1, (b.kvf k).2.2.trans (a.kvf k).2.2⟩⟩
theorem Same.is {R R' : RA} (h : Same R R') (k : Int) : raIs R' k = raIs R k := by
  unfold raIs; rw [h.ever, h.freed]
theorem Same.wth {R : RA} (ok : RaOk R) (i : Int) {g : Nd → Nd} (hg : ∀ x, (g x).key = x.key ∧ (g x).val = x.val ∧ (g x).flag = x.flag) : Same R (wth R i g) := by
  refine ⟨?_, ?_, ?_, fun k => ?_⟩
  · unfold Al.wth raSet; split <;> rfl
  · unfold Al.wth raSet; split <;> rfl
  · unfold Al.wth raSet; split <;> rfl
  · rw [wth_at ok]
    split
    · rename_i hh; rw [hh.2]; exact hg _
    · exact ⟨rfl, rfl, rfl⟩
theorem Same.join {R : RA} (ok : RaOk R) (w : Rw) (p i : Int) : Same R (joinR R w p i).1 := by
  unfold joinR
  have g1 : Same R (Al.wth R p (gNext i)) := Same.wth ok _ fun x => ⟨rfl, rfl, rfl⟩
  by_cases hp : p = 0 <;> by_cases hi : i = 0 <;> simp only [hp, hi, if_true, if_false]
  · exact Same.refl _
  · exact Same.wth ok _ fun x => ⟨rfl, rfl, rfl⟩
  · exact Same.wth ok _ fun x => ⟨rfl, rfl, rfl⟩
  · exact g1.trans (Same.wth (wth_ok ok _ _) _ fun x => ⟨rfl, rfl, rfl⟩)
theorem Same.lay {R : RA} (ok : RaOk R) (w : Rw) (t p i n : Int) : Same R (layR R w t p i n).1 := by
  unfold layR
  have o1 := wth_ok ok i (gLay t p n)
  have g1 : Same R (Al.wth R i (gLay t p n)) := Same.wth ok _ fun x => ⟨rfl, rfl, rfl⟩
  exact g1.trans ((Same.join o1 w p i).trans (Same.join (joinR_ok o1 w p i).1 _ i n))
theorem Same.off {R : RA} (ok : RaOk R) (w : Rw) (i : Int) : Same R (offR R w i).1 := by
  unfold offR
  exact (Same.join ok w _ _).trans (Same.wth (joinR_ok ok w _ _).1 _ fun x => ⟨rfl, rfl, rfl⟩)
theorem Same.layS {R : RA} (ok : RaOk R) (rows : List Rw) (t p i n : Int) : Same R (layS R rows t p i n).1 := by
  unfold Al.layS
  split
  · exact Same.lay ok _ _ _ _ _
  · exact Same.refl _
theorem Same.offS {R : RA} (ok : RaOk R) (rows : List Rw) (i : Int) : Same R (offS R rows i).1 := by
  unfold Al.offS
  split
  · exact Same.off ok _ _
  · exact Same.refl _
theorem layS_len (R : RA) (rows : List Rw) (t p i n : Int) : (layS R rows t p i n).2.length = rows.length := by
  unfold layS; split <;> simp
theorem offS_len (R : RA) (rows : List Rw) (i : Int) : (offS R rows i).2.length = rows.length := by
  unfold offS; split <;> simp
section
variable {R : RA} {rows : List Rw} {ls : List (List Int)}
theorem LInv.tagD (h : LInv R rows ls) (i : Int) : (∃ (t : Nat) (l : List Int) (q : Nat), ls[t]? = some l ∧ l[q]? = some i ∧ (raAt R i).tag = (t : Int) + 1) ∨ ((∀ (t : Nat) (l : List Int), ls[t]? = some l → i ∉ l) ∧ (raAt R i).tag = 0) := by
  by_cases hin : ∀ (t : Nat) (l : List Int), ls[t]? = some l → i ∉ l
  · exact .inr ⟨hin, (h.none i hin).1⟩
  · obtain ⟨t, l, h1, h2⟩ : ∃ (t : Nat) (l : List Int), ls[t]? = some l ∧ i ∈ l := Classical.byContradiction fun hno => hin fun t l h1 h2 => hno ⟨t, l, h1, h2⟩
    obtain ⟨q, hq⟩ := List.getElem?_of_mem h2
    exact .inl ⟨t, l, q, h1, hq, (h.node t l h1 q i hq).1⟩
theorem LInv.at (h : LInv R rows ls) {t : Nat} (ht : t < rows.length) : ∃ l, ls[t]? = some l ∧ rows.getD t r0 = ⟨l.headD 0, l.getLastD 0, l.length⟩ := by
  have hl : t < ls.length := by rw [← h.len]; exact ht
  refine ⟨ls[t], List.getElem?_eq_getElem hl, ?_⟩
  rw [List.getD_eq_getElem?_getD, h.row t _ (List.getElem?_eq_getElem hl)]
  rfl
theorem LInv.fine (h : LInv R rows ls) (h8 : ls.length ≤ 100) (he : R.ever ≤ 1000) (i : Int) (hi : I32ok i) : Fine R rows i := by
  have e0 := h.ok.e0
  have mem : ∀ (t : Nat) (l : List Int), ls[t]? = some l → ∀ k ∈ l, 0 < k ∧ k ≤ R.ever := fun t l hl k hk => ⟨(ra_rng h.ok (h.live t l hl k hk)).1, (ra_rng h.ok (h.live t l hl k hk)).2.1⟩
  have get : ∀ (t : Nat) (l : List Int), ls[t]? = some l → ∀ j, I32ok (l.getD j 0) := by
    intro t l hl j
    by_cases hj : j < l.length
    · have := mem t l hl _ (List.mem_of_getElem? (get_some hj))
      exact ⟨by omega, by omega⟩
    · rw [get_none hj]; exact i32_0
  have pv : ∀ (t : Nat) (l : List Int), ls[t]? = some l → ∀ q, I32ok (prv l q) := by
    intro t l hl q
    unfold prv
    split
    · exact i32_0
    · exact get t l hl _
  refine ⟨h.ok, hi, ?_, ?_, ?_, ?_, by rw [h.len]; omega, ?_⟩
  · rcases h.tagD i with ⟨t, l, q, h1, h2, h3⟩ | ⟨_, h3⟩ <;> rw [h3] <;> omega
  · rcases h.tagD i with ⟨t, l, q, h1, h2, h3⟩ | ⟨_, h3⟩ <;> rw [h3]
    · have := (List.getElem?_eq_some_iff.1 h1).1
      omega
    · omega
  · rcases h.tagD i with ⟨t, l, q, h1, h2, h3⟩ | ⟨h2, h3⟩
    · rw [(h.node t l h1 q i h2).2.1]; exact pv t l h1 q
    · rw [(h.none i h2).2.1]; exact i32_0
  · rcases h.tagD i with ⟨t, l, q, h1, h2, h3⟩ | ⟨h2, h3⟩
    · rw [(h.node t l h1 q i h2).2.2]; exact get t l h1 (q + 1)
    · rw [(h.none i h2).2.2]; exact i32_0
  · intro w hw
    obtain ⟨t, ht⟩ := List.getElem?_of_mem hw
    have hlt := (List.getElem?_eq_some_iff.1 ht).1
    obtain ⟨l, hl, hr⟩ := h.at hlt
    rw [List.getD_eq_getElem?_getD, ht] at hr
    have hr : w = ⟨l.headD 0, l.getLastD 0, l.length⟩ := hr
    subst hr
    have hp := pigeon R.ever.toNat l (h.one t l hl) (fun k hk => by have := mem t l hl k hk; omega)
    refine ⟨⟨by show (0 : Int) ≤ (l.length : Int); omega, by show (l.length : Int) ≤ 1000; omega⟩, ?_, ?_⟩
    · show I32ok (l.headD 0)
      have : l.headD 0 = l.getD 0 0 := by cases l <;> rfl
      rw [this]; exact get t l hl 0
    · show I32ok (l.getLastD 0)
      rw [lastD_get]; exact get t l hl _
/-- A list is put for another one. -/
def pushL (ls : List (List Int)) (t : Int) (i : Int) (front : Bool) : List (List Int) := ls.set t.toNat (if front then i :: ls.getD t.toNat [] else ls.getD t.toNat [] ++ [i])
theorem layOk_iff {t i : Int} : layOk R rows t i = true ↔ (0 ≤ t ∧ t < rows.length) ∧ raIs R i = true ∧ (raAt R i).tag = 0 := by
  unfold layOk
  simp only [Bool.and_eq_true, decide_eq_true_eq]
  exact and_assoc
theorem LInv.pushF (h : LInv R rows ls) {t i : Int} (hlo : layOk R rows t i = true) : LInv (layS R rows t 0 i (frontR rows t)).1 (layS R rows t 0 i (frontR rows t)).2 (pushL ls t i true) := by
  obtain ⟨hc, his, htag⟩ := layOk_iff.1 hlo
  obtain ⟨l, hl, hr⟩ := h.at (t := t.toNat) (by omega)
  have hno : ∀ (u : Nat) (m : List Int), ls[u]? = some m → i ∉ m := by
    rcases h.tagD i with ⟨u, l, q, h1, h2, h3⟩ | ⟨h2, h3⟩
    · omega
    · exact h2
  have hg : ls.getD t.toNat [] = l := by rw [List.getD_eq_getElem?_getD, hl]; rfl
  have hf : frontR rows t = l.headD 0 := by unfold frontR; rw [if_pos hc, hr]
  unfold layS pushL
  rw [if_pos hlo, hf, hr, hg, if_pos rfl]
  have := h.front hl his hno
  rwa [Int.toNat_of_nonneg hc.1] at this
theorem LInv.pushB (h : LInv R rows ls) {t i : Int} (hlo : layOk R rows t i = true) : LInv (layS R rows t (backR rows t) i 0).1 (layS R rows t (backR rows t) i 0).2 (pushL ls t i false) := by
  obtain ⟨hc, his, htag⟩ := layOk_iff.1 hlo
  obtain ⟨l, hl, hr⟩ := h.at (t := t.toNat) (by omega)
  have hno : ∀ (u : Nat) (m : List Int), ls[u]? = some m → i ∉ m := by
    rcases h.tagD i with ⟨u, l, q, h1, h2, h3⟩ | ⟨h2, h3⟩
    · omega
    · exact h2
  have hg : ls.getD t.toNat [] = l := by rw [List.getD_eq_getElem?_getD, hl]; rfl
  have hf : backR rows t = l.getLastD 0 := by unfold backR; rw [if_pos hc, hr]
  unfold layS pushL
  rw [if_pos hlo, hf, hr, hg, if_neg (by simp)]
  have := h.back hl his hno
  rwa [Int.toNat_of_nonneg hc.1] at this
theorem LInv.take (h : LInv R rows ls) {i : Int} (ho : offOk R rows i = true) : ∃ (t : Nat) (l : List Int) (q : Nat), ls[t]? = some l ∧ l[q]? = some i ∧ (raAt R i).tag = (t : Int) + 1 ∧ LInv (offS R rows i).1 (offS R rows i).2 (ls.set t (l.eraseIdx q)) := by
  have hc := of_decide_eq_true ho
  rcases h.tagD i with ⟨t, l, q, h1, h2, h3⟩ | ⟨h2, h3⟩
  · refine ⟨t, l, q, h1, h2, h3, ?_⟩
    have ht : ((raAt R i).tag - 1).toNat = t := by omega
    have hlt := (List.getElem?_eq_some_iff.1 h1).1
    obtain ⟨l', hl', hr⟩ := h.at (t := t) (by rw [h.len]; exact hlt)
    rw [h1] at hl'
    cases hl'
    unfold offS
    rw [if_pos ho, ht, hr]
    exact h.off h1 h2
  · omega
/-- Whatever act: there are lists behind it. -/
theorem LInv.some_lay (h : LInv R rows ls) (t i : Int) : (∃ ls', ls'.length = ls.length ∧ LInv (layS R rows t 0 i (frontR rows t)).1 (layS R rows t 0 i (frontR rows t)).2 ls') ∧ (∃ ls', ls'.length = ls.length ∧ LInv (layS R rows t (backR rows t) i 0).1 (layS R rows t (backR rows t) i 0).2 ls') := by
  by_cases hlo : layOk R rows t i = true
  · exact ⟨⟨_, by simp [pushL], h.pushF hlo⟩, ⟨_, by simp [pushL], h.pushB hlo⟩⟩
  · have e : ∀ p n, layS R rows t p i n = (R, rows) := fun p n => if_neg hlo
    rw [e, e]
    exact ⟨⟨ls, rfl, h⟩, ⟨ls, rfl, h⟩⟩
theorem LInv.some_off (h : LInv R rows ls) (i : Int) : ∃ ls', ls'.length = ls.length ∧ LInv (offS R rows i).1 (offS R rows i).2 ls' := by
  by_cases ho : offOk R rows i = true
  · obtain ⟨t, l, q, _, _, _, h4⟩ := h.take ho
    exact ⟨_, by simp, h4⟩
  · have e : offS R rows i = (R, rows) := if_neg ho
    rw [e]
    exact ⟨ls, rfl, h⟩
theorem LInv.some_mv (h : LInv R rows ls) (t i : Int) : ∃ ls', ls'.length = ls.length ∧ LInv (mvS R rows t i).1 (mvS R rows t i).2 ls' := by
  unfold mvS
  split
  · split
    · obtain ⟨l1, e1, h1⟩ := h.some_off i
      obtain ⟨⟨l2, e2, h2⟩, _⟩ := h1.some_lay t i
      exact ⟨l2, e2.trans e1, h2⟩
    · exact ⟨ls, rfl, h⟩
  · exact ⟨ls, rfl, h⟩
end
theorem Same.mvS {R : RA} (ok : RaOk R) (rows : List Rw) (t i : Int) (ok2 : RaOk (Al.offS R rows i).1) : Same R (mvS R rows t i).1 := by
  unfold Al.mvS
  split
  · split
    · exact (Same.offS ok rows i).trans (Same.layS ok2 _ _ _ _ _)
    · exact Same.refl _
  · exact Same.refl _
end Go.Al
end
