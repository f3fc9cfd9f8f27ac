/- Keys in queues, by the program: where a store lies, and what is told of it. Conditions: the numbers fit their kinds. -/
import Derived.Test.YtdebjhjnpomlmaaHx9
import Derived.Test.YtdebjhjnpomlmaaIz4
import Derived.Test.YtdebjhjnpomlmaaSt2
set_option linter.unusedVariables false
set_option linter.unusedSimpArgs false
set_option maxRecDepth 20000
set_option maxHeartbeats 1600000
-- axs, AThen, ABlock, dstsOk, AStep, callsF, AWant, aop, AS.ev, AS.put, upd, AS.bound, abin, aint, aload, astore, cellsAt, AV.cells, alen, elems, AV.int?, FPost, aresL, ares1, pack, afill, splice, Value.oneCell', Nat.reduceLT, Nat.reduceLeDiff, Nat.reduceEqDiff, Nat.reduceAdd, Nat.reduceMul, Nat.reduceSub, Nat.reduceBEq, Int.reduceLE, Int.reduceLT, Int.reduceToNat, Int.reduceNeg, Int.reduceEq, axt, ftK, ft3, pickP, AScope, AAll, pickQ, ftQ, inHeap, Nd.cells, getF, tys: Nd.cells, getF
namespace Go.Al
open Go.Proofs
/-- A store: its arena, its lists, its table. -/
structure SS where
  R : RA
  rows : List Rw
  ls : List (List Int)
  T : Tb
structure StL (H : AH) (n S L r a s ta ts : Nat) (fv : AV) (x : SS) : Prop where
  hS : H S = some (.obj 71 4 [[.ptr L 2 0 0, .ptr a 4 0 0, .ptr ta 2 0 0, .sc (.int .i64 x.rows.length)]] false)
  l : LsH H n L r a s fv x.R x.rows
  t : HtH H n ta ts x.T (cnt x.T)
  lS : S < n
/-- What is kept, and small enough. -/
structure SOk (x : SS) : Prop where
  i : SInv x.R x.rows x.ls x.T
  ev : x.R.ever ≤ 900
  ln : x.R.len ≤ 100000
  q : x.ls.length ≤ 8
  tl : x.T.length ≤ 524288
def stOwn (S L r a s ta ts : Nat) (fv : AV) (j : Nat) : Prop := j = S ∨ j = L ∨ j = r ∨ ArOwn a s fv j ∨ j = ta ∨ j = ts
section
variable {H H' : AH} {n n' S L r a s ta ts : Nat} {fv : AV} {x : SS}
theorem ArH.kinds {A : AR} (h : ArH H n a s fv A) {j t z : Nat} {es : List (List AV)} (hj : H j = some (.obj t z es false)) (h1 : t ≠ 100) (h2 : t ≠ 115) (h3 : t ≠ 21) : ¬ ArOwn a s fv j := by
  rintro (rfl | rfl | ⟨m, rfl⟩)
  · have := hj.symm.trans h.ha
    simp at this
    exact h1 this.1
  · have := hj.symm.trans h.hs
    simp at this
    exact h2 this.1
  · rcases h.hf with ⟨e1, e2⟩ | ⟨id, e, hid⟩
    · first | (cases e1; done) | (cases e2; done)
    · simp at e
      rw [e.1] at hj
      have := hj.symm.trans hid
      simp at this
      exact h3 this.1
theorem obj_ne {i j t t' z z' : Nat} {es es' : List (List AV)} {b b' : Bool} (hi : H i = some (.obj t z es b)) (hj : H j = some (.obj t' z' es' b')) (ht : t ≠ t') : i ≠ j := by
  rintro rfl
  have := hi.symm.trans hj
  simp at this
  exact ht this.1
theorem StL.keeps (h : StL H n S L r a s ta ts fv x) (k : Keeps H n H' n') : StL H' n' S L r a s ta ts fv x := by
  refine ⟨(k.2 S h.lS).trans h.hS, ⟨(k.2 L h.l.lL).trans h.l.hL, (k.2 r h.l.lr).trans h.l.hr, h.l.ar.keep k.1 fun j hj _ => k.2 j hj, Nat.lt_of_lt_of_le h.l.lL k.1, Nat.lt_of_lt_of_le h.l.lr k.1, h.l.nL, h.l.nr⟩, h.t.keeps k, Nat.lt_of_lt_of_le h.lS k.1⟩
/-- What is apart. -/
theorem StL.sep (h : StL H n S L r a s ta ts fv x) : (S ≠ L ∧ S ≠ r ∧ ¬ ArOwn a s fv S ∧ S ≠ ta ∧ S ≠ ts) ∧ (ta ≠ L ∧ ta ≠ r ∧ ¬ ArOwn a s fv ta) ∧ (ts ≠ L ∧ ts ≠ r ∧ ¬ ArOwn a s fv ts) :=
  ⟨⟨obj_ne h.hS h.l.hL (by decide), obj_ne h.hS h.l.hr (by decide), h.l.ar.kinds h.hS (by decide) (by decide) (by decide), obj_ne h.hS h.t.ha (by decide), obj_ne h.hS h.t.hs (by decide)⟩,
    ⟨obj_ne h.t.ha h.l.hL (by decide), obj_ne h.t.ha h.l.hr (by decide), h.l.ar.kinds h.t.ha (by decide) (by decide) (by decide)⟩,
    ⟨obj_ne h.t.hs h.l.hL (by decide), obj_ne h.t.hs h.l.hr (by decide), h.l.ar.kinds h.t.hs (by decide) (by decide) (by decide)⟩⟩
theorem SOk.i32 (o : SOk x) {i : Int} (hi : raIs x.R i = true) : I32ok i := by
  have := ra_rng o.i.inv.ok hi
  have := o.ev
  exact ⟨by omega, by omega⟩
theorem SOk.node32 (o : SOk x) (k : Int) : I32ok (nodeI x.T k) := by
  rcases o.i.node k with ⟨h, _⟩ | ⟨h, _⟩
  · exact o.i32 h
  · rw [h]; exact i32_0
theorem SOk.fine (o : SOk x) {i : Int} (hi : I32ok i) : Fine x.R x.rows i := o.i.inv.fine (by have := o.q; omega) (by have := o.ev; omega) i hi
theorem cStNode (h : StL H n S L r a s ta ts fv x) (o : SOk x) {k : Int} (hk : Key k) :
    HCalls Try.prog 43 [.ptr S 4 0 0, .sc (.int .u64 k)] H n fun v H' n' => v = .sc (.int .i32 (nodeI x.T k)) ∧ Keeps H n H' n' := by
  have hS := h.hS
  refine HCalls.walk Try.func43 rfl rfl Try.ntmps43 Try.results43 (by simp) ?_; simp (maxSteps := 400000) (dsimp := false) only [hS, axs, AThen, ABlock, dstsOk, AStep, callsF, AWant, aop, AS.ev, AS.put, upd, AS.bound, abin, aint, aload, astore, cellsAt, AV.cells, alen, elems, AV.int?, FPost, aresL, ares1, pack, afill, splice, Value.oneCell', Nat.reduceLT, Nat.reduceLeDiff, Nat.reduceEqDiff, Nat.reduceAdd, Nat.reduceMul, Nat.reduceSub, Nat.reduceBEq, Int.reduceLE, Int.reduceLT, Int.reduceToNat, Int.reduceNeg, Int.reduceEq, axt, ftK, ft3, pickP, AScope, AAll, pickQ, ftQ, inHeap, Nd.cells, getF, tys]
  refine ACallK.heap _ rfl (cHtGet h.t o.i.ok.pow hk (o.i.ok.find k)) ?_
  rintro v H' n' ⟨rfl, kp⟩
  simp (maxSteps := 400000) (dsimp := false) only [axs, AThen, ABlock, dstsOk, AStep, callsF, AWant, aop, AS.ev, AS.put, upd, AS.bound, abin, aint, aload, astore, cellsAt, AV.cells, alen, elems, AV.int?, FPost, aresL, ares1, pack, afill, splice, Value.oneCell', Nat.reduceLT, Nat.reduceLeDiff, Nat.reduceEqDiff, Nat.reduceAdd, Nat.reduceMul, Nat.reduceSub, Nat.reduceBEq, Int.reduceLE, Int.reduceLT, Int.reduceToNat, Int.reduceNeg, Int.reduceEq, axt, ftK, ft3, pickP, AScope, AAll, pickQ, ftQ, inHeap, Nd.cells, getF, tys]
  exact ⟨_, rfl, rfl, kp⟩
theorem cStFind (h : StL H n S L r a s ta ts fv x) (o : SOk x) {k : Int} (hk : Key k) :
    HCalls Try.prog 16 [.ptr S 4 0 0, .sc (.int .u64 k)] H n fun v H' n' => v = .tup [.sc (.int .i64 (if nodeI x.T k = 0 then 0 else (raAt x.R (nodeI x.T k)).tag - 1)), .sc (.bool (!decide (nodeI x.T k = 0)))] ∧ Keeps H n H' n' := by
  refine HCalls.walk Try.func16 rfl rfl Try.ntmps16 Try.results16 (by simp) ?_; simp (maxSteps := 400000) (dsimp := false) only [axs, AThen, ABlock, dstsOk, AStep, callsF, AWant, aop, AS.ev, AS.put, upd, AS.bound, abin, aint, aload, astore, cellsAt, AV.cells, alen, elems, AV.int?, FPost, aresL, ares1, pack, afill, splice, Value.oneCell', Nat.reduceLT, Nat.reduceLeDiff, Nat.reduceEqDiff, Nat.reduceAdd, Nat.reduceMul, Nat.reduceSub, Nat.reduceBEq, Int.reduceLE, Int.reduceLT, Int.reduceToNat, Int.reduceNeg, Int.reduceEq, axt, ftK, ft3, pickP, AScope, AAll, pickQ, ftQ, inHeap, Nd.cells, getF, tys]
  refine ACallK.heap _ rfl (cStNode h o hk) ?_
  rintro v H2 n2 ⟨rfl, kp⟩
  have h2 := h.keeps kp
  have hS := h2.hS
  by_cases h0 : nodeI x.T k = 0
  · simp (maxSteps := 400000) (dsimp := false) only [h0, axs, AThen, ABlock, dstsOk, AStep, callsF, AWant, aop, AS.ev, AS.put, upd, AS.bound, abin, aint, aload, astore, cellsAt, AV.cells, alen, elems, AV.int?, FPost, aresL, ares1, pack, afill, splice, Value.oneCell', Nat.reduceLT, Nat.reduceLeDiff, Nat.reduceEqDiff, Nat.reduceAdd, Nat.reduceMul, Nat.reduceSub, Nat.reduceBEq, Int.reduceLE, Int.reduceLT, Int.reduceToNat, Int.reduceNeg, Int.reduceEq, axt, ftK, ft3, pickP, AScope, AAll, pickQ, ftQ, inHeap, Nd.cells, getF, tys]
    exact ⟨_, rfl, rfl, kp⟩
  · have hn := o.node32 k
    have f := o.fine hn
    simp (maxSteps := 400000) (dsimp := false) only [h0, hS, axs, AThen, ABlock, dstsOk, AStep, callsF, AWant, aop, AS.ev, AS.put, upd, AS.bound, abin, aint, aload, astore, cellsAt, AV.cells, alen, elems, AV.int?, FPost, aresL, ares1, pack, afill, splice, Value.oneCell', Nat.reduceLT, Nat.reduceLeDiff, Nat.reduceEqDiff, Nat.reduceAdd, Nat.reduceMul, Nat.reduceSub, Nat.reduceBEq, Int.reduceLE, Int.reduceLT, Int.reduceToNat, Int.reduceNeg, Int.reduceEq, axt, ftK, ft3, pickP, AScope, AAll, pickQ, ftQ, inHeap, Nd.cells, getF, tys]
    refine ACallK.heap _ rfl (cLsTag h2.l o.i.inv.ok (nodeI x.T k) hn f.t0 f.t1) ?_; rintro r' H' n' ⟨rfl, eH, en⟩; obtain rfl := eH.symm; obtain rfl := en.symm; clear eH en; simp (maxSteps := 400000) (dsimp := false) only [axs, AThen, ABlock, dstsOk, AStep, callsF, AWant, aop, AS.ev, AS.put, upd, AS.bound, abin, aint, aload, astore, cellsAt, AV.cells, alen, elems, AV.int?, FPost, aresL, ares1, pack, afill, splice, Value.oneCell', Nat.reduceLT, Nat.reduceLeDiff, Nat.reduceEqDiff, Nat.reduceAdd, Nat.reduceMul, Nat.reduceSub, Nat.reduceBEq, Int.reduceLE, Int.reduceLT, Int.reduceToNat, Int.reduceNeg, Int.reduceEq, axt, ftK, ft3, pickP, AScope, AAll, pickQ, ftQ, inHeap, Nd.cells, getF, tys]
    exact ⟨_, rfl, by rw [if_neg h0, decide_eq_false h0]; rfl, kp.upd⟩
theorem cStVal (h : StL H n S L r a s ta ts fv x) (o : SOk x) {k : Int} (hk : Key k) :
    HCalls Try.prog 19 [.ptr S 4 0 0, .sc (.int .u64 k)] H n fun v H' n' => v = .sc (.int .u64 (raAt x.R (nodeI x.T k)).val) ∧ Keeps H n H' n' := by
  refine HCalls.walk Try.func19 rfl rfl Try.ntmps19 Try.results19 (by simp) ?_; simp (maxSteps := 400000) (dsimp := false) only [axs, AThen, ABlock, dstsOk, AStep, callsF, AWant, aop, AS.ev, AS.put, upd, AS.bound, abin, aint, aload, astore, cellsAt, AV.cells, alen, elems, AV.int?, FPost, aresL, ares1, pack, afill, splice, Value.oneCell', Nat.reduceLT, Nat.reduceLeDiff, Nat.reduceEqDiff, Nat.reduceAdd, Nat.reduceMul, Nat.reduceSub, Nat.reduceBEq, Int.reduceLE, Int.reduceLT, Int.reduceToNat, Int.reduceNeg, Int.reduceEq, axt, ftK, ft3, pickP, AScope, AAll, pickQ, ftQ, inHeap, Nd.cells, getF, tys]
  refine ACallK.heap _ rfl (cStNode h o hk) ?_
  rintro v H2 n2 ⟨rfl, kp⟩
  have h2 := h.keeps kp
  have hS := h2.hS
  by_cases h0 : nodeI x.T k = 0
  · have e : (raAt x.R (nodeI x.T k)).val = 0 := by rw [h0]; rfl
    rw [e]
    simp (maxSteps := 400000) (dsimp := false) only [h0, axs, AThen, ABlock, dstsOk, AStep, callsF, AWant, aop, AS.ev, AS.put, upd, AS.bound, abin, aint, aload, astore, cellsAt, AV.cells, alen, elems, AV.int?, FPost, aresL, ares1, pack, afill, splice, Value.oneCell', Nat.reduceLT, Nat.reduceLeDiff, Nat.reduceEqDiff, Nat.reduceAdd, Nat.reduceMul, Nat.reduceSub, Nat.reduceBEq, Int.reduceLE, Int.reduceLT, Int.reduceToNat, Int.reduceNeg, Int.reduceEq, axt, ftK, ft3, pickP, AScope, AAll, pickQ, ftQ, inHeap, Nd.cells, getF, tys]
    exact ⟨_, rfl, rfl, kp⟩
  · simp (maxSteps := 400000) (dsimp := false) only [h0, hS, axs, AThen, ABlock, dstsOk, AStep, callsF, AWant, aop, AS.ev, AS.put, upd, AS.bound, abin, aint, aload, astore, cellsAt, AV.cells, alen, elems, AV.int?, FPost, aresL, ares1, pack, afill, splice, Value.oneCell', Nat.reduceLT, Nat.reduceLeDiff, Nat.reduceEqDiff, Nat.reduceAdd, Nat.reduceMul, Nat.reduceSub, Nat.reduceBEq, Int.reduceLE, Int.reduceLT, Int.reduceToNat, Int.reduceNeg, Int.reduceEq, axt, ftK, ft3, pickP, AScope, AAll, pickQ, ftQ, inHeap, Nd.cells, getF, tys]
    refine ACallK.heap _ rfl (cRAt h2.l.ar o.i.inv.ok (nodeI x.T k) (o.node32 k)) ?_; rintro r' H' n' ⟨rfl, eH, en⟩; obtain rfl := eH.symm; obtain rfl := en.symm; clear eH en; simp (maxSteps := 400000) (dsimp := false) only [axs, AThen, ABlock, dstsOk, AStep, callsF, AWant, aop, AS.ev, AS.put, upd, AS.bound, abin, aint, aload, astore, cellsAt, AV.cells, alen, elems, AV.int?, FPost, aresL, ares1, pack, afill, splice, Value.oneCell', Nat.reduceLT, Nat.reduceLeDiff, Nat.reduceEqDiff, Nat.reduceAdd, Nat.reduceMul, Nat.reduceSub, Nat.reduceBEq, Int.reduceLE, Int.reduceLT, Int.reduceToNat, Int.reduceNeg, Int.reduceEq, axt, ftK, ft3, pickP, AScope, AAll, pickQ, ftQ, inHeap, Nd.cells, getF, tys]
    exact ⟨_, rfl, rfl, kp.upd⟩
theorem cStFlag (h : StL H n S L r a s ta ts fv x) (o : SOk x) {k : Int} (hk : Key k) :
    HCalls Try.prog 20 [.ptr S 4 0 0, .sc (.int .u64 k)] H n fun v H' n' => v = .sc (.int .i64 (raAt x.R (nodeI x.T k)).flag) ∧ Keeps H n H' n' := by
  refine HCalls.walk Try.func20 rfl rfl Try.ntmps20 Try.results20 (by simp) ?_; simp (maxSteps := 400000) (dsimp := false) only [axs, AThen, ABlock, dstsOk, AStep, callsF, AWant, aop, AS.ev, AS.put, upd, AS.bound, abin, aint, aload, astore, cellsAt, AV.cells, alen, elems, AV.int?, FPost, aresL, ares1, pack, afill, splice, Value.oneCell', Nat.reduceLT, Nat.reduceLeDiff, Nat.reduceEqDiff, Nat.reduceAdd, Nat.reduceMul, Nat.reduceSub, Nat.reduceBEq, Int.reduceLE, Int.reduceLT, Int.reduceToNat, Int.reduceNeg, Int.reduceEq, axt, ftK, ft3, pickP, AScope, AAll, pickQ, ftQ, inHeap, Nd.cells, getF, tys]
  refine ACallK.heap _ rfl (cStNode h o hk) ?_
  rintro v H2 n2 ⟨rfl, kp⟩
  have h2 := h.keeps kp
  have hS := h2.hS
  by_cases h0 : nodeI x.T k = 0
  · have e : (raAt x.R (nodeI x.T k)).flag = 0 := by rw [h0]; rfl
    rw [e]
    simp (maxSteps := 400000) (dsimp := false) only [h0, axs, AThen, ABlock, dstsOk, AStep, callsF, AWant, aop, AS.ev, AS.put, upd, AS.bound, abin, aint, aload, astore, cellsAt, AV.cells, alen, elems, AV.int?, FPost, aresL, ares1, pack, afill, splice, Value.oneCell', Nat.reduceLT, Nat.reduceLeDiff, Nat.reduceEqDiff, Nat.reduceAdd, Nat.reduceMul, Nat.reduceSub, Nat.reduceBEq, Int.reduceLE, Int.reduceLT, Int.reduceToNat, Int.reduceNeg, Int.reduceEq, axt, ftK, ft3, pickP, AScope, AAll, pickQ, ftQ, inHeap, Nd.cells, getF, tys]
    exact ⟨_, rfl, rfl, kp⟩
  · simp (maxSteps := 400000) (dsimp := false) only [h0, hS, axs, AThen, ABlock, dstsOk, AStep, callsF, AWant, aop, AS.ev, AS.put, upd, AS.bound, abin, aint, aload, astore, cellsAt, AV.cells, alen, elems, AV.int?, FPost, aresL, ares1, pack, afill, splice, Value.oneCell', Nat.reduceLT, Nat.reduceLeDiff, Nat.reduceEqDiff, Nat.reduceAdd, Nat.reduceMul, Nat.reduceSub, Nat.reduceBEq, Int.reduceLE, Int.reduceLT, Int.reduceToNat, Int.reduceNeg, Int.reduceEq, axt, ftK, ft3, pickP, AScope, AAll, pickQ, ftQ, inHeap, Nd.cells, getF, tys]
    refine ACallK.heap _ rfl (cRAt h2.l.ar o.i.inv.ok (nodeI x.T k) (o.node32 k)) ?_; rintro r' H' n' ⟨rfl, eH, en⟩; obtain rfl := eH.symm; obtain rfl := en.symm; clear eH en; simp (maxSteps := 400000) (dsimp := false) only [axs, AThen, ABlock, dstsOk, AStep, callsF, AWant, aop, AS.ev, AS.put, upd, AS.bound, abin, aint, aload, astore, cellsAt, AV.cells, alen, elems, AV.int?, FPost, aresL, ares1, pack, afill, splice, Value.oneCell', Nat.reduceLT, Nat.reduceLeDiff, Nat.reduceEqDiff, Nat.reduceAdd, Nat.reduceMul, Nat.reduceSub, Nat.reduceBEq, Int.reduceLE, Int.reduceLT, Int.reduceToNat, Int.reduceNeg, Int.reduceEq, axt, ftK, ft3, pickP, AScope, AAll, pickQ, ftQ, inHeap, Nd.cells, getF, tys]
    exact ⟨_, rfl, rfl, kp.upd⟩
theorem cStKey (h : StL H n S L r a s ta ts fv x) (o : SOk x) (i : Int) (hi : I32ok i) :
    HCalls Try.prog 51 [.ptr S 4 0 0, .sc (.int .i32 i)] H n fun v H' n' => v = .tup [.sc (.int .u64 (raAt x.R i).key), .sc (.bool (!decide (i = 0)))] ∧ Keeps H n H' n' := by
  have hS := h.hS
  by_cases h0 : i = 0
  · subst h0
    refine HCalls.walk Try.func51 rfl rfl Try.ntmps51 Try.results51 (by simp) ?_; simp (maxSteps := 400000) (dsimp := false) only [hS, axs, AThen, ABlock, dstsOk, AStep, callsF, AWant, aop, AS.ev, AS.put, upd, AS.bound, abin, aint, aload, astore, cellsAt, AV.cells, alen, elems, AV.int?, FPost, aresL, ares1, pack, afill, splice, Value.oneCell', Nat.reduceLT, Nat.reduceLeDiff, Nat.reduceEqDiff, Nat.reduceAdd, Nat.reduceMul, Nat.reduceSub, Nat.reduceBEq, Int.reduceLE, Int.reduceLT, Int.reduceToNat, Int.reduceNeg, Int.reduceEq, axt, ftK, ft3, pickP, AScope, AAll, pickQ, ftQ, inHeap, Nd.cells, getF, tys]
    refine ACallK.heap _ rfl (cRAt h.l.ar o.i.inv.ok 0 hi) ?_; rintro r' H' n' ⟨rfl, eH, en⟩; obtain rfl := eH.symm; obtain rfl := en.symm; clear eH en; simp (maxSteps := 400000) (dsimp := false) only [axs, AThen, ABlock, dstsOk, AStep, callsF, AWant, aop, AS.ev, AS.put, upd, AS.bound, abin, aint, aload, astore, cellsAt, AV.cells, alen, elems, AV.int?, FPost, aresL, ares1, pack, afill, splice, Value.oneCell', Nat.reduceLT, Nat.reduceLeDiff, Nat.reduceEqDiff, Nat.reduceAdd, Nat.reduceMul, Nat.reduceSub, Nat.reduceBEq, Int.reduceLE, Int.reduceLT, Int.reduceToNat, Int.reduceNeg, Int.reduceEq, axt, ftK, ft3, pickP, AScope, AAll, pickQ, ftQ, inHeap, Nd.cells, getF, tys]
    exact ⟨_, rfl, rfl, (Keeps.refl _ _).upd⟩
  · refine HCalls.walk Try.func51 rfl rfl Try.ntmps51 Try.results51 (by simp) ?_; simp (maxSteps := 400000) (dsimp := false) only [hS, axs, AThen, ABlock, dstsOk, AStep, callsF, AWant, aop, AS.ev, AS.put, upd, AS.bound, abin, aint, aload, astore, cellsAt, AV.cells, alen, elems, AV.int?, FPost, aresL, ares1, pack, afill, splice, Value.oneCell', Nat.reduceLT, Nat.reduceLeDiff, Nat.reduceEqDiff, Nat.reduceAdd, Nat.reduceMul, Nat.reduceSub, Nat.reduceBEq, Int.reduceLE, Int.reduceLT, Int.reduceToNat, Int.reduceNeg, Int.reduceEq, axt, ftK, ft3, pickP, AScope, AAll, pickQ, ftQ, inHeap, Nd.cells, getF, tys]
    refine ACallK.heap _ rfl (cRAt h.l.ar o.i.inv.ok i hi) ?_; rintro r' H' n' ⟨rfl, eH, en⟩; obtain rfl := eH.symm; obtain rfl := en.symm; clear eH en; simp (maxSteps := 400000) (dsimp := false) only [h0, axs, AThen, ABlock, dstsOk, AStep, callsF, AWant, aop, AS.ev, AS.put, upd, AS.bound, abin, aint, aload, astore, cellsAt, AV.cells, alen, elems, AV.int?, FPost, aresL, ares1, pack, afill, splice, Value.oneCell', Nat.reduceLT, Nat.reduceLeDiff, Nat.reduceEqDiff, Nat.reduceAdd, Nat.reduceMul, Nat.reduceSub, Nat.reduceBEq, Int.reduceLE, Int.reduceLT, Int.reduceToNat, Int.reduceNeg, Int.reduceEq, axt, ftK, ft3, pickP, AScope, AAll, pickQ, ftQ, inHeap, Nd.cells, getF, tys]
    exact ⟨_, rfl, rfl, (Keeps.refl _ _).upd⟩
theorem cStFront (h : StL H n S L r a s ta ts fv x) (o : SOk x) (q : Int) :
    HCalls Try.prog 23 [.ptr S 4 0 0, .sc (.int .i64 q)] H n fun v H' n' => v = .tup [.sc (.int .u64 (raAt x.R (frontR x.rows q)).key), .sc (.bool (!decide (frontR x.rows q = 0)))] ∧ Keeps H n H' n' := by
  have hS := h.hS
  have cf : HCalls Try.prog 52 [.ptr L 2 0 0, .sc (.int .i64 q)] H n fun v H' n' => v = .sc (.int .i32 (frontR x.rows q)) ∧ H' = H ∧ n' = n := cLsFront h.l q
  have hi := (o.fine i32_0).front q
  refine HCalls.walk Try.func23 rfl rfl Try.ntmps23 Try.results23 (by simp) ?_; simp (maxSteps := 400000) (dsimp := false) only [hS, axs, AThen, ABlock, dstsOk, AStep, callsF, AWant, aop, AS.ev, AS.put, upd, AS.bound, abin, aint, aload, astore, cellsAt, AV.cells, alen, elems, AV.int?, FPost, aresL, ares1, pack, afill, splice, Value.oneCell', Nat.reduceLT, Nat.reduceLeDiff, Nat.reduceEqDiff, Nat.reduceAdd, Nat.reduceMul, Nat.reduceSub, Nat.reduceBEq, Int.reduceLE, Int.reduceLT, Int.reduceToNat, Int.reduceNeg, Int.reduceEq, axt, ftK, ft3, pickP, AScope, AAll, pickQ, ftQ, inHeap, Nd.cells, getF, tys]
  refine ACallK.heap _ rfl (cf) ?_; rintro r' H' n' ⟨rfl, eH, en⟩; obtain rfl := eH.symm; obtain rfl := en.symm; clear eH en; simp (maxSteps := 400000) (dsimp := false) only [axs, AThen, ABlock, dstsOk, AStep, callsF, AWant, aop, AS.ev, AS.put, upd, AS.bound, abin, aint, aload, astore, cellsAt, AV.cells, alen, elems, AV.int?, FPost, aresL, ares1, pack, afill, splice, Value.oneCell', Nat.reduceLT, Nat.reduceLeDiff, Nat.reduceEqDiff, Nat.reduceAdd, Nat.reduceMul, Nat.reduceSub, Nat.reduceBEq, Int.reduceLE, Int.reduceLT, Int.reduceToNat, Int.reduceNeg, Int.reduceEq, axt, ftK, ft3, pickP, AScope, AAll, pickQ, ftQ, inHeap, Nd.cells, getF, tys]
  refine ACallK.heap _ rfl (cStKey h o _ hi) ?_
  rintro v H2 n2 ⟨rfl, kp⟩
  simp (maxSteps := 400000) (dsimp := false) only [axs, AThen, ABlock, dstsOk, AStep, callsF, AWant, aop, AS.ev, AS.put, upd, AS.bound, abin, aint, aload, astore, cellsAt, AV.cells, alen, elems, AV.int?, FPost, aresL, ares1, pack, afill, splice, Value.oneCell', Nat.reduceLT, Nat.reduceLeDiff, Nat.reduceEqDiff, Nat.reduceAdd, Nat.reduceMul, Nat.reduceSub, Nat.reduceBEq, Int.reduceLE, Int.reduceLT, Int.reduceToNat, Int.reduceNeg, Int.reduceEq, axt, ftK, ft3, pickP, AScope, AAll, pickQ, ftQ, inHeap, Nd.cells, getF, tys]
  exact ⟨_, rfl, rfl, kp⟩
theorem cStBack (h : StL H n S L r a s ta ts fv x) (o : SOk x) (q : Int) :
    HCalls Try.prog 24 [.ptr S 4 0 0, .sc (.int .i64 q)] H n fun v H' n' => v = .tup [.sc (.int .u64 (raAt x.R (backR x.rows q)).key), .sc (.bool (!decide (backR x.rows q = 0)))] ∧ Keeps H n H' n' := by
  have hS := h.hS
  have cf : HCalls Try.prog 53 [.ptr L 2 0 0, .sc (.int .i64 q)] H n fun v H' n' => v = .sc (.int .i32 (backR x.rows q)) ∧ H' = H ∧ n' = n := cLsBack h.l q
  have hi := (o.fine i32_0).back q
  refine HCalls.walk Try.func24 rfl rfl Try.ntmps24 Try.results24 (by simp) ?_; simp (maxSteps := 400000) (dsimp := false) only [hS, axs, AThen, ABlock, dstsOk, AStep, callsF, AWant, aop, AS.ev, AS.put, upd, AS.bound, abin, aint, aload, astore, cellsAt, AV.cells, alen, elems, AV.int?, FPost, aresL, ares1, pack, afill, splice, Value.oneCell', Nat.reduceLT, Nat.reduceLeDiff, Nat.reduceEqDiff, Nat.reduceAdd, Nat.reduceMul, Nat.reduceSub, Nat.reduceBEq, Int.reduceLE, Int.reduceLT, Int.reduceToNat, Int.reduceNeg, Int.reduceEq, axt, ftK, ft3, pickP, AScope, AAll, pickQ, ftQ, inHeap, Nd.cells, getF, tys]
  refine ACallK.heap _ rfl (cf) ?_; rintro r' H' n' ⟨rfl, eH, en⟩; obtain rfl := eH.symm; obtain rfl := en.symm; clear eH en; simp (maxSteps := 400000) (dsimp := false) only [axs, AThen, ABlock, dstsOk, AStep, callsF, AWant, aop, AS.ev, AS.put, upd, AS.bound, abin, aint, aload, astore, cellsAt, AV.cells, alen, elems, AV.int?, FPost, aresL, ares1, pack, afill, splice, Value.oneCell', Nat.reduceLT, Nat.reduceLeDiff, Nat.reduceEqDiff, Nat.reduceAdd, Nat.reduceMul, Nat.reduceSub, Nat.reduceBEq, Int.reduceLE, Int.reduceLT, Int.reduceToNat, Int.reduceNeg, Int.reduceEq, axt, ftK, ft3, pickP, AScope, AAll, pickQ, ftQ, inHeap, Nd.cells, getF, tys]
  refine ACallK.heap _ rfl (cStKey h o _ hi) ?_
  rintro v H2 n2 ⟨rfl, kp⟩
  simp (maxSteps := 400000) (dsimp := false) only [axs, AThen, ABlock, dstsOk, AStep, callsF, AWant, aop, AS.ev, AS.put, upd, AS.bound, abin, aint, aload, astore, cellsAt, AV.cells, alen, elems, AV.int?, FPost, aresL, ares1, pack, afill, splice, Value.oneCell', Nat.reduceLT, Nat.reduceLeDiff, Nat.reduceEqDiff, Nat.reduceAdd, Nat.reduceMul, Nat.reduceSub, Nat.reduceBEq, Int.reduceLE, Int.reduceLT, Int.reduceToNat, Int.reduceNeg, Int.reduceEq, axt, ftK, ft3, pickP, AScope, AAll, pickQ, ftQ, inHeap, Nd.cells, getF, tys]
  exact ⟨_, rfl, rfl, kp⟩
def lenQ (rows : List Rw) (t : Int) : Int := if 0 ≤ t ∧ t < rows.length then (rows.getD t.toNat r0).n else 0
theorem cStLen (h : StL H n S L r a s ta ts fv x) (q : Int) :
    HCalls Try.prog 31 [.ptr S 4 0 0, .sc (.int .i64 q)] H n fun v H' n' => v = .sc (.int .i64 (lenQ x.rows q)) ∧ H' = H ∧ n' = n := by
  have hS := h.hS
  have cf : HCalls Try.prog 64 [.ptr L 2 0 0, .sc (.int .i64 q)] H n fun v H' n' => v = .sc (.int .i64 (lenQ x.rows q)) ∧ H' = H ∧ n' = n := cLsLen h.l q
  refine HCalls.walk Try.func31 rfl rfl Try.ntmps31 Try.results31 (by simp) ?_; simp (maxSteps := 400000) (dsimp := false) only [hS, axs, AThen, ABlock, dstsOk, AStep, callsF, AWant, aop, AS.ev, AS.put, upd, AS.bound, abin, aint, aload, astore, cellsAt, AV.cells, alen, elems, AV.int?, FPost, aresL, ares1, pack, afill, splice, Value.oneCell', Nat.reduceLT, Nat.reduceLeDiff, Nat.reduceEqDiff, Nat.reduceAdd, Nat.reduceMul, Nat.reduceSub, Nat.reduceBEq, Int.reduceLE, Int.reduceLT, Int.reduceToNat, Int.reduceNeg, Int.reduceEq, axt, ftK, ft3, pickP, AScope, AAll, pickQ, ftQ, inHeap, Nd.cells, getF, tys]
  refine ACallK.heap _ rfl (cf) ?_; rintro r' H' n' ⟨rfl, eH, en⟩; obtain rfl := eH.symm; obtain rfl := en.symm; clear eH en; simp (maxSteps := 400000) (dsimp := false) only [axs, AThen, ABlock, dstsOk, AStep, callsF, AWant, aop, AS.ev, AS.put, upd, AS.bound, abin, aint, aload, astore, cellsAt, AV.cells, alen, elems, AV.int?, FPost, aresL, ares1, pack, afill, splice, Value.oneCell', Nat.reduceLT, Nat.reduceLeDiff, Nat.reduceEqDiff, Nat.reduceAdd, Nat.reduceMul, Nat.reduceSub, Nat.reduceBEq, Int.reduceLE, Int.reduceLT, Int.reduceToNat, Int.reduceNeg, Int.reduceEq, axt, ftK, ft3, pickP, AScope, AAll, pickQ, ftQ, inHeap, Nd.cells, getF, tys]
  exact ⟨_, rfl, rfl⟩
theorem cStTotal (h : StL H n S L r a s ta ts fv x) :
    HCalls Try.prog 13 [.ptr S 4 0 0] H n fun v H' n' => v = .sc (.int .i64 (cnt x.T)) ∧ H' = H ∧ n' = n := by
  have hS := h.hS
  refine HCalls.walk Try.func13 rfl rfl Try.ntmps13 Try.results13 (by simp) ?_; simp (maxSteps := 400000) (dsimp := false) only [hS, axs, AThen, ABlock, dstsOk, AStep, callsF, AWant, aop, AS.ev, AS.put, upd, AS.bound, abin, aint, aload, astore, cellsAt, AV.cells, alen, elems, AV.int?, FPost, aresL, ares1, pack, afill, splice, Value.oneCell', Nat.reduceLT, Nat.reduceLeDiff, Nat.reduceEqDiff, Nat.reduceAdd, Nat.reduceMul, Nat.reduceSub, Nat.reduceBEq, Int.reduceLE, Int.reduceLT, Int.reduceToNat, Int.reduceNeg, Int.reduceEq, axt, ftK, ft3, pickP, AScope, AAll, pickQ, ftQ, inHeap, Nd.cells, getF, tys]
  refine ACallK.heap _ rfl (cHtLen h.t) ?_; rintro r' H' n' ⟨rfl, eH, en⟩; obtain rfl := eH.symm; obtain rfl := en.symm; clear eH en; simp (maxSteps := 400000) (dsimp := false) only [axs, AThen, ABlock, dstsOk, AStep, callsF, AWant, aop, AS.ev, AS.put, upd, AS.bound, abin, aint, aload, astore, cellsAt, AV.cells, alen, elems, AV.int?, FPost, aresL, ares1, pack, afill, splice, Value.oneCell', Nat.reduceLT, Nat.reduceLeDiff, Nat.reduceEqDiff, Nat.reduceAdd, Nat.reduceMul, Nat.reduceSub, Nat.reduceBEq, Int.reduceLE, Int.reduceLT, Int.reduceToNat, Int.reduceNeg, Int.reduceEq, axt, ftK, ft3, pickP, AScope, AAll, pickQ, ftQ, inHeap, Nd.cells, getF, tys]
  exact ⟨_, rfl, rfl⟩
theorem cStRooms (h : StL H n S L r a s ta ts fv x) (o : SOk x) :
    HCalls Try.prog 14 [.ptr S 4 0 0] H n fun v H' n' => v = .tup [.sc (.int .i64 x.R.len), .sc (.int .i64 x.T.length)] ∧ H' = H ∧ n' = n := by
  have hS := h.hS
  refine HCalls.walk Try.func14 rfl rfl Try.ntmps14 Try.results14 (by simp) ?_; simp (maxSteps := 400000) (dsimp := false) only [axs, AThen, ABlock, dstsOk, AStep, callsF, AWant, aop, AS.ev, AS.put, upd, AS.bound, abin, aint, aload, astore, cellsAt, AV.cells, alen, elems, AV.int?, FPost, aresL, ares1, pack, afill, splice, Value.oneCell', Nat.reduceLT, Nat.reduceLeDiff, Nat.reduceEqDiff, Nat.reduceAdd, Nat.reduceMul, Nat.reduceSub, Nat.reduceBEq, Int.reduceLE, Int.reduceLT, Int.reduceToNat, Int.reduceNeg, Int.reduceEq, axt, ftK, ft3, pickP, AScope, AAll, pickQ, ftQ, inHeap, Nd.cells, getF, tys]
  refine ADraw.planQR [] [4, 9] [(0, true), (1, true), (2, true), (3, true), (5, true), (6, true), (7, true), (8, true), (4, true), (9, true), (10, true), (11, true)] [(0, 0), (0, 0), (0, 0), (0, 0), (1, 0), (1, 0), (1, 0), (1, 0), (0, 2), (0, 2), (0, 0), (0, 0)] mixed (by kernel_rfl) (by kernel_rfl) ?_
  simp (maxSteps := 400000) (dsimp := false) only [hS, axs, AThen, ABlock, dstsOk, AStep, callsF, AWant, aop, AS.ev, AS.put, upd, AS.bound, abin, aint, aload, astore, cellsAt, AV.cells, alen, elems, AV.int?, FPost, aresL, ares1, pack, afill, splice, Value.oneCell', Nat.reduceLT, Nat.reduceLeDiff, Nat.reduceEqDiff, Nat.reduceAdd, Nat.reduceMul, Nat.reduceSub, Nat.reduceBEq, Int.reduceLE, Int.reduceLT, Int.reduceToNat, Int.reduceNeg, Int.reduceEq, axt, ftK, ft3, pickP, AScope, AAll, pickQ, ftQ, inHeap, Nd.cells, getF, tys]
  refine AQuietK.intro rfl rfl (cRLen h.l.ar o.i.inv.ok) (fun _ _ => rfl) ?_
  simp (maxSteps := 400000) (dsimp := false) only [hS, axs, AThen, ABlock, dstsOk, AStep, callsF, AWant, aop, AS.ev, AS.put, upd, AS.bound, abin, aint, aload, astore, cellsAt, AV.cells, alen, elems, AV.int?, FPost, aresL, ares1, pack, afill, splice, Value.oneCell', Nat.reduceLT, Nat.reduceLeDiff, Nat.reduceEqDiff, Nat.reduceAdd, Nat.reduceMul, Nat.reduceSub, Nat.reduceBEq, Int.reduceLE, Int.reduceLT, Int.reduceToNat, Int.reduceNeg, Int.reduceEq, axt, ftK, ft3, pickP, AScope, AAll, pickQ, ftQ, inHeap, Nd.cells, getF, tys]
  refine AQuietK.intro rfl rfl (cHtSlots h.t) (fun _ _ => rfl) ?_
  simp (maxSteps := 400000) (dsimp := false) only [axs, AThen, ABlock, dstsOk, AStep, callsF, AWant, aop, AS.ev, AS.put, upd, AS.bound, abin, aint, aload, astore, cellsAt, AV.cells, alen, elems, AV.int?, FPost, aresL, ares1, pack, afill, splice, Value.oneCell', Nat.reduceLT, Nat.reduceLeDiff, Nat.reduceEqDiff, Nat.reduceAdd, Nat.reduceMul, Nat.reduceSub, Nat.reduceBEq, Int.reduceLE, Int.reduceLT, Int.reduceToNat, Int.reduceNeg, Int.reduceEq, axt, ftK, ft3, pickP, AScope, AAll, pickQ, ftQ, inHeap, Nd.cells, getF, tys]
  exact ⟨_, rfl, rfl⟩
end
end Go.Al
