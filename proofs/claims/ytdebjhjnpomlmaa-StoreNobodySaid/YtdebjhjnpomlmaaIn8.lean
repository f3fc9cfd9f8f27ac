/- Lists of places, by the program: two places become neighbours. Conditions: the rows are short. -/
import Derived.Test.YtdebjhjnpomlmaaIn7
set_option linter.unusedVariables false
set_option linter.unusedSimpArgs false
set_option maxRecDepth 20000
set_option maxHeartbeats 1600000
-- axs, AThen, ABlock, dstsOk, AStep, callsF, AWant, aop, AS.ev, AS.put, upd, AS.bound, abin, aint, aload, astore, cellsAt, AV.cells, alen, elems, AV.int?, FPost, aresL, ares1, pack, afill, splice, Value.oneCell', Nat.reduceLT, Nat.reduceLeDiff, Nat.reduceEqDiff, Nat.reduceAdd, Nat.reduceMul, Nat.reduceSub, Nat.reduceBEq, Int.reduceLE, Int.reduceLT, Int.reduceToNat, Int.reduceNeg, Int.reduceEq, axt, ftK, ft3, pickP, AScope, AAll, pickQ, ftQ, inHeap, Nd.cells, tys: Nd.cells
namespace Go.Al
open Go.Proofs
theorem tNext {H : AH} {n b : Nat} {v : Int} (hb : H b = some (.obj 21 1 [[.sc (.int .i32 v)]] false)) (hbn : b < n) : Turns H n 94 [.ptr b 1 0 0] (gNext v) := by
  intro x H1 n1 p hk h1 h2 hp
  have hb1 := (hk.2 b hbn).trans hb
  refine HCalls.walk Try.func94 rfl rfl Try.ntmps94 Try.results94 (by simp) ?_; simp (maxSteps := 400000) (dsimp := false) only [hp, hb1, axs, AThen, ABlock, dstsOk, AStep, callsF, AWant, aop, AS.ev, AS.put, upd, AS.bound, abin, aint, aload, astore, cellsAt, AV.cells, alen, elems, AV.int?, FPost, aresL, ares1, pack, afill, splice, Value.oneCell', Nat.reduceLT, Nat.reduceLeDiff, Nat.reduceEqDiff, Nat.reduceAdd, Nat.reduceMul, Nat.reduceSub, Nat.reduceBEq, Int.reduceLE, Int.reduceLT, Int.reduceToNat, Int.reduceNeg, Int.reduceEq, axt, ftK, ft3, pickP, AScope, AAll, pickQ, ftQ, inHeap, Nd.cells, tys]
  exact ⟨_, rfl, rfl, rfl⟩
theorem tPrev {H : AH} {n b : Nat} {v : Int} (hb : H b = some (.obj 21 1 [[.sc (.int .i32 v)]] false)) (hbn : b < n) : Turns H n 95 [.ptr b 1 0 0] (gPrev v) := by
  intro x H1 n1 p hk h1 h2 hp
  have hb1 := (hk.2 b hbn).trans hb
  refine HCalls.walk Try.func95 rfl rfl Try.ntmps95 Try.results95 (by simp) ?_; simp (maxSteps := 400000) (dsimp := false) only [hp, hb1, axs, AThen, ABlock, dstsOk, AStep, callsF, AWant, aop, AS.ev, AS.put, upd, AS.bound, abin, aint, aload, astore, cellsAt, AV.cells, alen, elems, AV.int?, FPost, aresL, ares1, pack, afill, splice, Value.oneCell', Nat.reduceLT, Nat.reduceLeDiff, Nat.reduceEqDiff, Nat.reduceAdd, Nat.reduceMul, Nat.reduceSub, Nat.reduceBEq, Int.reduceLE, Int.reduceLT, Int.reduceToNat, Int.reduceNeg, Int.reduceEq, axt, ftK, ft3, pickP, AScope, AAll, pickQ, ftQ, inHeap, Nd.cells, tys]
  exact ⟨_, rfl, rfl, rfl⟩
theorem tOff {H : AH} {n : Nat} : Turns H n 79 [] gOff := by
  intro x H1 n1 p hk h1 h2 hp
  refine HCalls.walk Try.func79 rfl rfl Try.ntmps79 Try.results79 (by simp) ?_; simp (maxSteps := 400000) (dsimp := false) only [hp, upd_upd, axs, AThen, ABlock, dstsOk, AStep, callsF, AWant, aop, AS.ev, AS.put, upd, AS.bound, abin, aint, aload, astore, cellsAt, AV.cells, alen, elems, AV.int?, FPost, aresL, ares1, pack, afill, splice, Value.oneCell', Nat.reduceLT, Nat.reduceLeDiff, Nat.reduceEqDiff, Nat.reduceAdd, Nat.reduceMul, Nat.reduceSub, Nat.reduceBEq, Int.reduceLE, Int.reduceLT, Int.reduceToNat, Int.reduceNeg, Int.reduceEq, axt, ftK, ft3, pickP, AScope, AAll, pickQ, ftQ, inHeap, Nd.cells, tys]
  exact ⟨_, rfl, rfl, rfl⟩
theorem tLay {H : AH} {n b c d : Nat} {t p q : Int} (ht0 : 0 ≤ t) (ht : t ≤ 1000) (hb : H b = some (.obj 3 1 [[.sc (.int .i64 t)]] false)) (hc : H c = some (.obj 21 1 [[.sc (.int .i32 p)]] false)) (hd : H d = some (.obj 21 1 [[.sc (.int .i32 q)]] false)) (hbn : b < n) (hcn : c < n) (hdn : d < n) :
    Turns H n 93 [.ptr b 1 0 0, .ptr c 1 0 0, .ptr d 1 0 0] (gLay t p q) := by
  intro x H1 n1 o hk h1 h2 hp
  have hb1 := (hk.2 b hbn).trans hb
  have hc1 := (hk.2 c hcn).trans hc
  have hd1 := (hk.2 d hdn).trans hd
  have w : IntKind.i64.wrap (t + 1) = t + 1 := IntWalk.i64_in _ ⟨by omega, by omega⟩
  have ne1 : ¬ b = o := by omega
  have ne2 : ¬ c = o := by omega
  have ne3 : ¬ d = o := by omega
  refine HCalls.walk Try.func93 rfl rfl Try.ntmps93 Try.results93 (by simp) ?_; simp (maxSteps := 400000) (dsimp := false) only [axs, AThen, ABlock, dstsOk, AStep, callsF, AWant, aop, AS.ev, AS.put, upd, AS.bound, abin, aint, aload, astore, cellsAt, AV.cells, alen, elems, AV.int?, FPost, aresL, ares1, pack, afill, splice, Value.oneCell', Nat.reduceLT, Nat.reduceLeDiff, Nat.reduceEqDiff, Nat.reduceAdd, Nat.reduceMul, Nat.reduceSub, Nat.reduceBEq, Int.reduceLE, Int.reduceLT, Int.reduceToNat, Int.reduceNeg, Int.reduceEq, axt, ftK, ft3, pickP, AScope, AAll, pickQ, ftQ, inHeap, Nd.cells, tys]
  refine ADraw.tree3 [] [(0, true), (1, true), (2, true), (3, true), (4, true), (7, true), (8, true)] 8 (.fork [(5, true)] (.leaf [(6, true), (9, true), (10, true), (11, true), (12, true), (13, true), (14, true), (15, true)]) (.fork [(9, true), (10, true), (11, true)] (.leaf [(6, true), (12, true), (13, true), (14, true), (15, true)]) (.leaf [(12, true), (6, true), (13, true), (14, true), (15, true)]) (.leaf [(12, true), (6, true), (13, true), (14, true), (15, true)])) (.fork [(9, true), (10, true), (11, true)] (.leaf [(6, true), (12, true), (13, true), (14, true), (15, true)]) (.leaf [(12, true), (6, true), (13, true), (14, true), (15, true)]) (.leaf [(12, true), (6, true), (13, true), (14, true), (15, true)]))) (.fork [(6, true)] (.leaf [(5, true), (9, true), (10, true), (11, true), (12, true), (13, true), (14, true), (15, true)]) (.leaf [(9, true), (5, true), (10, true), (11, true), (12, true), (13, true), (14, true), (15, true)]) (.leaf [(9, true), (5, true), (10, true), (11, true), (12, true), (13, true), (14, true), (15, true)])) (.fork [(9, true), (5, true), (10, true), (11, true)] (.leaf [(6, true), (12, true), (13, true), (14, true), (15, true)]) (.leaf [(12, true), (6, true), (13, true), (14, true), (15, true)]) (.leaf [(12, true), (6, true), (13, true), (14, true), (15, true)])) mixed (by kernel_rfl) ?_
  simp (maxSteps := 400000) (dsimp := false) only [hp, hb1, hc1, hd1, ne1, ne2, ne3, w, upd_upd, axs, AThen, ABlock, dstsOk, AStep, callsF, AWant, aop, AS.ev, AS.put, upd, AS.bound, abin, aint, aload, astore, cellsAt, AV.cells, alen, elems, AV.int?, FPost, aresL, ares1, pack, afill, splice, Value.oneCell', Nat.reduceLT, Nat.reduceLeDiff, Nat.reduceEqDiff, Nat.reduceAdd, Nat.reduceMul, Nat.reduceSub, Nat.reduceBEq, Int.reduceLE, Int.reduceLT, Int.reduceToNat, Int.reduceNeg, Int.reduceEq, axt, ftK, ft3, pickP, AScope, AAll, pickQ, ftQ, inHeap, Nd.cells, tys]
  refine AFork3.intro ?_ ?_ ?_
  all_goals simp (maxSteps := 400000) (dsimp := false) only [hp, hb1, hc1, hd1, ne1, ne2, ne3, w, upd_upd, axs, AThen, ABlock, dstsOk, AStep, callsF, AWant, aop, AS.ev, AS.put, upd, AS.bound, abin, aint, aload, astore, cellsAt, AV.cells, alen, elems, AV.int?, FPost, aresL, ares1, pack, afill, splice, Value.oneCell', Nat.reduceLT, Nat.reduceLeDiff, Nat.reduceEqDiff, Nat.reduceAdd, Nat.reduceMul, Nat.reduceSub, Nat.reduceBEq, Int.reduceLE, Int.reduceLT, Int.reduceToNat, Int.reduceNeg, Int.reduceEq, axt, ftK, ft3, pickP, AScope, AAll, pickQ, ftQ, inHeap, Nd.cells, tys]
  all_goals refine AFork3.intro ?_ ?_ ?_
  all_goals simp (maxSteps := 400000) (dsimp := false) only [hp, hb1, hc1, hd1, ne1, ne2, ne3, w, upd_upd, axs, AThen, ABlock, dstsOk, AStep, callsF, AWant, aop, AS.ev, AS.put, upd, AS.bound, abin, aint, aload, astore, cellsAt, AV.cells, alen, elems, AV.int?, FPost, aresL, ares1, pack, afill, splice, Value.oneCell', Nat.reduceLT, Nat.reduceLeDiff, Nat.reduceEqDiff, Nat.reduceAdd, Nat.reduceMul, Nat.reduceSub, Nat.reduceBEq, Int.reduceLE, Int.reduceLT, Int.reduceToNat, Int.reduceNeg, Int.reduceEq, axt, ftK, ft3, pickP, AScope, AAll, pickQ, ftQ, inHeap, Nd.cells, tys]
  all_goals first | exact ⟨_, rfl, rfl, rfl⟩ | refine AFork3.intro ?_ ?_ ?_
  all_goals simp (maxSteps := 400000) (dsimp := false) only [hp, hb1, hc1, hd1, ne1, ne2, ne3, w, upd_upd, axs, AThen, ABlock, dstsOk, AStep, callsF, AWant, aop, AS.ev, AS.put, upd, AS.bound, abin, aint, aload, astore, cellsAt, AV.cells, alen, elems, AV.int?, FPost, aresL, ares1, pack, afill, splice, Value.oneCell', Nat.reduceLT, Nat.reduceLeDiff, Nat.reduceEqDiff, Nat.reduceAdd, Nat.reduceMul, Nat.reduceSub, Nat.reduceBEq, Int.reduceLE, Int.reduceLT, Int.reduceToNat, Int.reduceNeg, Int.reduceEq, axt, ftK, ft3, pickP, AScope, AAll, pickQ, ftQ, inHeap, Nd.cells, tys]
  all_goals exact ⟨_, rfl, rfl, rfl⟩
/-- Lists that a call has turned: what lay lies as it lay, but for the rows and the nodes. -/
structure LsTo (H : AH) (n L r a s : Nat) (fv : AV) (H' : AH) (n' : Nat) (R' : RA) (rows' : List Rw) : Prop where
  le : n ≤ n'
  keep : ∀ j, j < n → j ≠ r → j ≠ s → H' j = H j
  ls : LsH H' n' L r a s fv R' rows'
theorem LsTo.trans {H H' H'' : AH} {n n' n'' L r a s : Nat} {fv : AV} {R' R'' : RA} {rows' rows'' : List Rw} (h : LsTo H n L r a s fv H' n' R' rows') (k : LsTo H' n' L r a s fv H'' n'' R'' rows'') : LsTo H n L r a s fv H'' n'' R'' rows'' :=
  ⟨Nat.le_trans h.le k.le, fun j h1 h2 h3 => (k.keep j (Nat.lt_of_lt_of_le h1 h.le) h2 h3).trans (h.keep j h1 h2 h3), k.ls⟩
theorem LsTo.same {H : AH} {n L r a s : Nat} {fv : AV} {R : RA} {rows : List Rw} (h : LsH H n L r a s fv R rows) : LsTo H n L r a s fv H n R rows := ⟨Nat.le_refl _, fun _ _ _ _ => rfl, h⟩
theorem LsTo.new {H H' : AH} {n n' L r a s : Nat} {fv : AV} {R' : RA} {rows' : List Rw} {x : Option AO} (h : LsTo (upd H n x) (n + 1) L r a s fv H' n' R' rows') : LsTo H n L r a s fv H' n' R' rows' :=
  ⟨by have := h.le; omega, fun j h1 h2 h3 => (h.keep j (by omega) h2 h3).trans (upd_ne _ _ (by omega)), h.ls⟩
theorem ArH.slt {H : AH} {n a s : Nat} {fv : AV} {A : AR} (h : ArH H n a s fv A) : s < n := h.ls
theorem LsTo.wth {H : AH} {n L r a s : Nat} {fv : AV} {R : RA} {rows : List Rw} (h : LsH H n L r a s fv R rows) (ok : RaOk R) (i : Int) (g : Nd → Nd) :
    LsTo H n L r a s fv (wH H n s R i g) (n + 1 + 1 + 1) (Al.wth R i g) rows := by
  have h2 := h.new (x := some (.obj 82 6 [(raAt R i).cells] false)) |>.new (x := some (.obj 82 6 [(g (raAt R i)).cells] false))
  have hk : ∀ j, j < n → j ≠ s → wH H n s R i g j = H j := by
    intro j hj hs
    unfold wH setH
    rw [upd_ne _ _ hs, upd_ne _ _ (by omega), upd_ne _ _ (by omega), upd_ne _ _ (by omega)]
  have nLs : ¬ L = s := fun e => h.nL (.inr (.inl e))
  have nrs : ¬ r = s := fun e => h.nr (.inr (.inl e))
  refine ⟨by omega, fun j h1 _ h3 => hk j h1 h3, ⟨?_, ?_, h2.ar.setR ok i (g (raAt R i)), by have := h.lL; omega, by have := h.lr; omega, h.nL, h.nr⟩⟩
  · rw [hk L h.lL nLs]; exact h.hL
  · rw [hk r h.lr nrs]; exact h.hr
/-- A row is laid. -/
theorem LsTo.row {H : AH} {n L r a s : Nat} {fv : AV} {R : RA} {rows : List Rw} (h : LsH H n L r a s fv R rows) {rows' : List Rw} (hl : rows'.length = rows.length) :
    LsTo H n L r a s fv (upd H r (some (.obj 122 3 (RW rows') false))) n R rows' := by
  have nLr : ¬ L = r := fun e => by have h1 := h.hL; rw [e, h.hr] at h1; simp at h1
  refine ⟨by omega, fun j _ h2 _ => upd_ne _ _ h2, ⟨?_, upd_same _ _ _, ?_, h.lL, h.lr, h.nL, h.nr⟩⟩
  · rw [upd_ne _ _ nLr, hl]; exact h.hL
  · exact h.ar.keep (Nat.le_refl _) fun j _ ho => upd_ne _ _ (fun e => h.nr (by rw [← e]; exact ho))
end Go.Al
