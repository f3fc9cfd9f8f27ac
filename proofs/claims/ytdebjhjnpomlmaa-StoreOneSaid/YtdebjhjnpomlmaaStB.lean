/- Keys in queues, by the program: where a store lies, and what is told of it. Conditions: the numbers fit their kinds. Keys in queues, by the program: what a key has is laid; keys are moved, taken out. Conditions: the numbers fit their kinds. Keys in queues, by the program: keys are moved, taken out, pushed; a new store. Conditions: the numbers fit their kinds. Keys in queues, by the program: all of a queue; a new store. Conditions: the numbers fit their kinds. -/
import Derived.Test.YtdebjhjnpomlmaaHxB
import Derived.Test.YtdebjhjnpomlmaaIz4
import Derived.Test.YtdebjhjnpomlmaaStA
section
set_option linter.unusedVariables false
set_option linter.unusedSimpArgs false
set_option maxRecDepth 20000
set_option maxHeartbeats 1600000
-- axs, AThen, ABlock, dstsOk, AStep, callsF, AWant, aop, AS.ev, AS.put, upd, AS.bound, abin, aint, aload, astore, cellsAt, AV.cells, alen, elems, AV.int?, FPost, aresL, ares1, pack, afill, splice, Value.oneCell', Nat.reduceLT, Nat.reduceLeDiff, Nat.reduceEqDiff, Nat.reduceAdd, Nat.reduceMul, Nat.reduceSub, Nat.reduceBEq, Int.reduceLE, Int.reduceLT, Int.reduceToNat, Int.reduceNeg, Int.reduceEq, axt, ftK, ft3, pickP, AScope, AAll, pickQ, ftQ, inHeap, Nd.cells, getF, tys: Nd.cells, getF
namespace Go.Al
open Go.Proofs
/-- A store: its arena, its lists, its table. -/
structure SS where
  R : RA
  rows : List Rw
  ls : List (List Int)
  T : Tb
structure StL (H : AH) (n S L r a s ta ts : Nat) (fv : AV) (x : SS) : Prop where
  hS : H S = some (.obj 71 4 [[.ptr L 2 0 0, .ptr a 4 0 0, .ptr ta 2 0 0, .sc (.int .i64 x.rows.length)]] false)
  l : LsH H n L r a s fv x.R x.rows
  t : HtH H n ta ts x.T (cnt x.T)
  lS : S < n
/-- What is kept, and small enough. -/
structure SOk (x : SS) : Prop where
  i : SInv x.R x.rows x.ls x.T
  ev : x.R.ever ≤ 900
  ln : x.R.len ≤ 100000
  q : x.ls.length ≤ 8
  tl : x.T.length ≤ 524288
def stOwn (S L r a s ta ts : Nat) (fv : AV) (j : Nat) : Prop := j = S ∨ j = L ∨ j = r ∨ ArOwn a s fv j ∨ j = ta ∨ j = ts
section
variable {H H' : AH} {n n' S L r a s ta ts : Nat} {fv : AV} {x : SS}
theorem ArH.kinds {A : AR} (h : ArH H n a s fv A) {j t z : Nat} {es : List (List AV)} (hj : H j = some (.obj t z es false)) (h1 : t ≠ 100) (h2 : t ≠ 115) (h3 : t ≠ 21) : ¬ ArOwn a s fv j := by
  rintro (rfl | rfl | ⟨m, rfl⟩)
  · have := hj.symm.trans h.ha
    simp at this
    exact h1 this.1
  · have := hj.symm.trans h.hs
    simp at this
    exact h2 this.1
  · rcases h.hf with ⟨e1, e2⟩ | ⟨id, e, hid⟩
    · first | (cases e1; done) | (cases e2; done)
    · simp at e
      rw [e.1] at hj
      have := hj.symm.trans hid
      simp at this
      exact h3 this.1
theorem obj_ne {i j t t' z z' : Nat} {es es' : List (List AV)} {b b' : Bool} (hi : H i = some (.obj t z es b)) (hj : H j = some (.obj t' z' es' b')) (ht : t ≠ t') : i ≠ j := by
  rintro rfl
  have := hi.symm.trans hj
  simp at this
  exact ht this.1
theorem StL.keeps (h : StL H n S L r a s ta ts fv x) (k : Keeps H n H' n') : StL H' n' S L r a s ta ts fv x := by
  refine ⟨(k.2 S h.lS).trans h.hS, ⟨(k.2 L h.l.lL).trans h.l.hL, (k.2 r h.l.lr).trans h.l.hr, h.l.ar.keep k.1 fun j hj _ => k.2 j hj, Nat.lt_of_lt_of_le h.l.lL k.1, Nat.lt_of_lt_of_le h.l.lr k.1, h.l.nL, h.l.nr⟩, h.t.keeps k, Nat.lt_of_lt_of_le h.lS k.1⟩
/-- What is apart. -/
theorem StL.sep (h : StL H n S L r a s ta ts fv x) : (S ≠ L ∧ S ≠ r ∧ ¬ ArOwn a s fv S ∧ S ≠ ta ∧ S ≠ ts) ∧ (ta ≠ L ∧ ta ≠ r ∧ ¬ ArOwn a s fv ta) ∧ (ts ≠ L ∧ ts ≠ r ∧ ¬ ArOwn a s fv ts) :=
  ⟨⟨obj_ne h.hS h.l.hL (by decide), obj_ne h.hS h.l.hr (by decide), h.l.ar.kinds h.hS (by decide) (by decide) (by decide), obj_ne h.hS h.t.ha (by decide), obj_ne h.hS h.t.hs (by decide)⟩,
    ⟨obj_ne h.t.ha h.l.hL (by decide), obj_ne h.t.ha h.l.hr (by decide), h.l.ar.kinds h.t.ha (by decide) (by decide) (by decide)⟩,
    ⟨obj_ne h.t.hs h.l.hL (by decide), obj_ne h.t.hs h.l.hr (by decide), h.l.ar.kinds h.t.hs (by decide) (by decide) (by decide)⟩⟩
theorem SOk.i32 (o : SOk x) {i : Int} (hi : raIs x.R i = true) : I32ok i := by
  have := ra_rng o.i.inv.ok hi
  have := o.ev
  exact ⟨by omega, by omega⟩
theorem SOk.node32 (o : SOk x) (k : Int) : I32ok (nodeI x.T k) := by
  rcases o.i.node k with ⟨h, _⟩ | ⟨h, _⟩
  · exact o.i32 h
  · rw [h]; exact i32_0
theorem SOk.fine (o : SOk x) {i : Int} (hi : I32ok i) : Fine x.R x.rows i := o.i.inv.fine (by have := o.q; omega) (by have := o.ev; omega) i hi
theorem cStNode (h : StL H n S L r a s ta ts fv x) (o : SOk x) {k : Int} (hk : Key k) :
    HCalls Try.prog 43 [.ptr S 4 0 0, .sc (.int .u64 k)] H n fun v H' n' => v = .sc (.int .i32 (nodeI x.T k)) ∧ Keeps H n H' n' := by
  have hS := h.hS
  refine HCalls.walk Try.func43 rfl rfl Try.ntmps43 Try.results43 (by simp) ?_; simp (maxSteps := 400000) (dsimp := false) only [hS, axs, AThen, ABlock, dstsOk, AStep, callsF, AWant, aop, AS.ev, AS.put, upd, AS.bound, abin, aint, aload, astore, cellsAt, AV.cells, alen, elems, AV.int?, FPost, aresL, ares1, pack, afill, splice, Value.oneCell', Nat.reduceLT, Nat.reduceLeDiff, Nat.reduceEqDiff, Nat.reduceAdd, Nat.reduceMul, Nat.reduceSub, Nat.reduceBEq, Int.reduceLE, Int.reduceLT, Int.reduceToNat, Int.reduceNeg, Int.reduceEq, axt, ftK, ft3, pickP, AScope, AAll, pickQ, ftQ, inHeap, Nd.cells, getF, tys]
  refine ACallK.heap _ rfl (cHtGet h.t o.i.ok.pow hk (o.i.ok.find k)) ?_
  rintro v H' n' ⟨rfl, kp⟩
  simp (maxSteps := 400000) (dsimp := false) only [axs, AThen, ABlock, dstsOk, AStep, callsF, AWant, aop, AS.ev, AS.put, upd, AS.bound, abin, aint, aload, astore, cellsAt, AV.cells, alen, elems, AV.int?, FPost, aresL, ares1, pack, afill, splice, Value.oneCell', Nat.reduceLT, Nat.reduceLeDiff, Nat.reduceEqDiff, Nat.reduceAdd, Nat.reduceMul, Nat.reduceSub, Nat.reduceBEq, Int.reduceLE, Int.reduceLT, Int.reduceToNat, Int.reduceNeg, Int.reduceEq, axt, ftK, ft3, pickP, AScope, AAll, pickQ, ftQ, inHeap, Nd.cells, getF, tys]
  exact ⟨_, rfl, rfl, kp⟩
theorem cStFind (h : StL H n S L r a s ta ts fv x) (o : SOk x) {k : Int} (hk : Key k) :
    HCalls Try.prog 16 [.ptr S 4 0 0, .sc (.int .u64 k)] H n fun v H' n' => v = .tup [.sc (.int .i64 (if nodeI x.T k = 0 then 0 else (raAt x.R (nodeI x.T k)).tag - 1)), .sc (.bool (!decide (nodeI x.T k = 0)))] ∧ Keeps H n H' n' := by
  refine HCalls.walk Try.func16 rfl rfl Try.ntmps16 Try.results16 (by simp) ?_; simp (maxSteps := 400000) (dsimp := false) only [axs, AThen, ABlock, dstsOk, AStep, callsF, AWant, aop, AS.ev, AS.put, upd, AS.bound, abin, aint, aload, astore, cellsAt, AV.cells, alen, elems, AV.int?, FPost, aresL, ares1, pack, afill, splice, Value.oneCell', Nat.reduceLT, Nat.reduceLeDiff, Nat.reduceEqDiff, Nat.reduceAdd, Nat.reduceMul, Nat.reduceSub, Nat.reduceBEq, Int.reduceLE, Int.reduceLT, Int.reduceToNat, Int.reduceNeg, Int.reduceEq, axt, ftK, ft3, pickP, AScope, AAll, pickQ, ftQ, inHeap, Nd.cells, getF, tys]
  refine ACallK.heap _ rfl (cStNode h o hk) ?_
  rintro v H2 n2 ⟨rfl, kp⟩
  have h2 := h.keeps kp
  have hS := h2.hS
  by_cases h0 : nodeI x.T k = 0
  · simp (maxSteps := 400000) (dsimp := false) only [h0, axs, AThen, ABlock, dstsOk, AStep, callsF, AWant, aop, AS.ev, AS.put, upd, AS.bound, abin, aint, aload, astore, cellsAt, AV.cells, alen, elems, AV.int?, FPost, aresL, ares1, pack, afill, splice, Value.oneCell', Nat.reduceLT, Nat.reduceLeDiff, Nat.reduceEqDiff, Nat.reduceAdd, Nat.reduceMul, Nat.reduceSub, Nat.reduceBEq, Int.reduceLE, Int.reduceLT, Int.reduceToNat, Int.reduceNeg, Int.reduceEq, axt, ftK, ft3, pickP, AScope, AAll, pickQ, ftQ, inHeap, Nd.cells, getF, tys]
    exact ⟨_, rfl, rfl, kp⟩
  · have hn := o.node32 k
    have f := o.fine hn
    simp (maxSteps := 400000) (dsimp := false) only [h0, hS, axs, AThen, ABlock, dstsOk, AStep, callsF, AWant, aop, AS.ev, AS.put, upd, AS.bound, abin, aint, aload, astore, cellsAt, AV.cells, alen, elems, AV.int?, FPost, aresL, ares1, pack, afill, splice, Value.oneCell', Nat.reduceLT, Nat.reduceLeDiff, Nat.reduceEqDiff, Nat.reduceAdd, Nat.reduceMul, Nat.reduceSub, Nat.reduceBEq, Int.reduceLE, Int.reduceLT, Int.reduceToNat, Int.reduceNeg, Int.reduceEq, axt, ftK, ft3, pickP, AScope, AAll, pickQ, ftQ, inHeap, Nd.cells, getF, tys]
    refine ACallK.heap _ rfl (cLsTag h2.l o.i.inv.ok (nodeI x.T k) hn f.t0 f.t1) ?_; rintro r' H' n' ⟨rfl, eH, en⟩; obtain rfl := eH.symm; obtain rfl := en.symm; clear eH en; simp (maxSteps := 400000) (dsimp := false) only [axs, AThen, ABlock, dstsOk, AStep, callsF, AWant, aop, AS.ev, AS.put, upd, AS.bound, abin, aint, aload, astore, cellsAt, AV.cells, alen, elems, AV.int?, FPost, aresL, ares1, pack, afill, splice, Value.oneCell', Nat.reduceLT, Nat.reduceLeDiff, Nat.reduceEqDiff, Nat.reduceAdd, Nat.reduceMul, Nat.reduceSub, Nat.reduceBEq, Int.reduceLE, Int.reduceLT, Int.reduceToNat, Int.reduceNeg, Int.reduceEq, axt, ftK, ft3, pickP, AScope, AAll, pickQ, ftQ, inHeap, Nd.cells, getF, tys]
    exact ⟨_, rfl, by rw [if_neg h0, decide_eq_false h0]; rfl, kp.upd⟩
theorem cStVal (h : StL H n S L r a s ta ts fv x) (o : SOk x) {k : Int} (hk : Key k) :
    HCalls Try.prog 19 [.ptr S 4 0 0, .sc (.int .u64 k)] H n fun v H' n' => v = .sc (.int .u64 (raAt x.R (nodeI x.T k)).val) ∧ Keeps H n H' n' := by
  refine HCalls.walk Try.func19 rfl rfl Try.ntmps19 Try.results19 (by simp) ?_; simp (maxSteps := 400000) (dsimp := false) only [axs, AThen, ABlock, dstsOk, AStep, callsF, AWant, aop, AS.ev, AS.put, upd, AS.bound, abin, aint, aload, astore, cellsAt, AV.cells, alen, elems, AV.int?, FPost, aresL, ares1, pack, afill, splice, Value.oneCell', Nat.reduceLT, Nat.reduceLeDiff, Nat.reduceEqDiff, Nat.reduceAdd, Nat.reduceMul, Nat.reduceSub, Nat.reduceBEq, Int.reduceLE, Int.reduceLT, Int.reduceToNat, Int.reduceNeg, Int.reduceEq, axt, ftK, ft3, pickP, AScope, AAll, pickQ, ftQ, inHeap, Nd.cells, getF, tys]
  refine ACallK.heap _ rfl (cStNode h o hk) ?_
  rintro v H2 n2 ⟨rfl, kp⟩
  have h2 := h.keeps kp
  have hS := h2.hS
  by_cases h0 : nodeI x.T k = 0
  · have e : (raAt x.R (nodeI x.T k)).val = 0 := by rw [h0]; rfl
    rw [e]
    simp (maxSteps := 400000) (dsimp := false) only [h0, axs, AThen, ABlock, dstsOk, AStep, callsF, AWant, aop, AS.ev, AS.put, upd, AS.bound, abin, aint, aload, astore, cellsAt, AV.cells, alen, elems, AV.int?, FPost, aresL, ares1, pack, afill, splice, Value.oneCell', Nat.reduceLT, Nat.reduceLeDiff, Nat.reduceEqDiff, Nat.reduceAdd, Nat.reduceMul, Nat.reduceSub, Nat.reduceBEq, Int.reduceLE, Int.reduceLT, Int.reduceToNat, Int.reduceNeg, Int.reduceEq, axt, ftK, ft3, pickP, AScope, AAll, pickQ, ftQ, inHeap, Nd.cells, getF, tys]
    exact ⟨_, rfl, rfl, kp⟩
  · simp (maxSteps := 400000) (dsimp := false) only [h0, hS, axs, AThen, ABlock, dstsOk, AStep, callsF, AWant, aop, AS.ev, AS.put, upd, AS.bound, abin, aint, aload, astore, cellsAt, AV.cells, alen, elems, AV.int?, FPost, aresL, ares1, pack, afill, splice, Value.oneCell', Nat.reduceLT, Nat.reduceLeDiff, Nat.reduceEqDiff, Nat.reduceAdd, Nat.reduceMul, Nat.reduceSub, Nat.reduceBEq, Int.reduceLE, Int.reduceLT, Int.reduceToNat, Int.reduceNeg, Int.reduceEq, axt, ftK, ft3, pickP, AScope, AAll, pickQ, ftQ, inHeap, Nd.cells, getF, tys]
    refine ACallK.heap _ rfl (cRAt h2.l.ar o.i.inv.ok (nodeI x.T k) (o.node32 k)) ?_; rintro r' H' n' ⟨rfl, eH, en⟩; obtain rfl := eH.symm; obtain rfl := en.symm; clear eH en; simp (maxSteps := 400000) (dsimp := false) only [axs, AThen, ABlock, dstsOk, AStep, callsF, AWant, aop, AS.ev, AS.put, upd, AS.bound, abin, aint, aload, astore, cellsAt, AV.cells, alen, elems, AV.int?, FPost, aresL, ares1, pack, afill, splice, Value.oneCell', Nat.reduceLT, Nat.reduceLeDiff, Nat.reduceEqDiff, Nat.reduceAdd, Nat.reduceMul, Nat.reduceSub, Nat.reduceBEq, Int.reduceLE, Int.reduceLT, Int.reduceToNat, Int.reduceNeg, Int.reduceEq, axt, ftK, ft3, pickP, AScope, AAll, pickQ, ftQ, inHeap, Nd.cells, getF, tys]
    exact ⟨_, rfl, rfl, kp.upd⟩
theorem cStFlag (h : StL H n S L r a s ta ts fv x) (o : SOk x) {k : Int} (hk : Key k) :
    HCalls Try.prog 20 [.ptr S 4 0 0, .sc (.int .u64 k)] H n fun v H' n' => v = .sc (.int .i64 (raAt x.R (nodeI x.T k)).flag) ∧ Keeps H n H' n' := by
  refine HCalls.walk Try.func20 rfl rfl Try.ntmps20 Try.results20 (by simp) ?_; simp (maxSteps := 400000) (dsimp := false) only [axs, AThen, ABlock, dstsOk, AStep, callsF, AWant, aop, AS.ev, AS.put, upd, AS.bound, abin, aint, aload, astore, cellsAt, AV.cells, alen, elems, AV.int?, FPost, aresL, ares1, pack, afill, splice, Value.oneCell', Nat.reduceLT, Nat.reduceLeDiff, Nat.reduceEqDiff, Nat.reduceAdd, Nat.reduceMul, Nat.reduceSub, Nat.reduceBEq, Int.reduceLE, Int.reduceLT, Int.reduceToNat, Int.reduceNeg, Int.reduceEq, axt, ftK, ft3, pickP, AScope, AAll, pickQ, ftQ, inHeap, Nd.cells, getF, tys]
  refine ACallK.heap _ rfl (cStNode h o hk) ?_
  rintro v H2 n2 ⟨rfl, kp⟩
  have h2 := h.keeps kp
  have hS := h2.hS
  by_cases h0 : nodeI x.T k = 0
  · have e : (raAt x.R (nodeI x.T k)).flag = 0 := by rw [h0]; rfl
    rw [e]
    simp (maxSteps := 400000) (dsimp := false) only [h0, axs, AThen, ABlock, dstsOk, AStep, callsF, AWant, aop, AS.ev, AS.put, upd, AS.bound, abin, aint, aload, astore, cellsAt, AV.cells, alen, elems, AV.int?, FPost, aresL, ares1, pack, afill, splice, Value.oneCell', Nat.reduceLT, Nat.reduceLeDiff, Nat.reduceEqDiff, Nat.reduceAdd, Nat.reduceMul, Nat.reduceSub, Nat.reduceBEq, Int.reduceLE, Int.reduceLT, Int.reduceToNat, Int.reduceNeg, Int.reduceEq, axt, ftK, ft3, pickP, AScope, AAll, pickQ, ftQ, inHeap, Nd.cells, getF, tys]
    exact ⟨_, rfl, rfl, kp⟩
  · simp (maxSteps := 400000) (dsimp := false) only [h0, hS, axs, AThen, ABlock, dstsOk, AStep, callsF, AWant, aop, AS.ev, AS.put, upd, AS.bound, abin, aint, aload, astore, cellsAt, AV.cells, alen, elems, AV.int?, FPost, aresL, ares1, pack, afill, splice, Value.oneCell', Nat.reduceLT, Nat.reduceLeDiff, Nat.reduceEqDiff, Nat.reduceAdd, Nat.reduceMul, Nat.reduceSub, Nat.reduceBEq, Int.reduceLE, Int.reduceLT, Int.reduceToNat, Int.reduceNeg, Int.reduceEq, axt, ftK, ft3, pickP, AScope, AAll, pickQ, ftQ, inHeap, Nd.cells, getF, tys]
    refine ACallK.heap _ rfl (cRAt h2.l.ar o.i.inv.ok (nodeI x.T k) (o.node32 k)) ?_; rintro r' H' n' ⟨rfl, eH, en⟩; obtain rfl := eH.symm; obtain rfl := en.symm; clear eH en; simp (maxSteps := 400000) (dsimp := false) only [axs, AThen, ABlock, dstsOk, AStep, callsF, AWant, aop, AS.ev, AS.put, upd, AS.bound, abin, aint, aload, astore, cellsAt, AV.cells, alen, elems, AV.int?, FPost, aresL, ares1, pack, afill, splice, Value.oneCell', Nat.reduceLT, Nat.reduceLeDiff, Nat.reduceEqDiff, Nat.reduceAdd, Nat.reduceMul, Nat.reduceSub, Nat.reduceBEq, Int.reduceLE, Int.reduceLT, Int.reduceToNat, Int.reduceNeg, Int.reduceEq, axt, ftK, ft3, pickP, AScope, AAll, pickQ, ftQ, inHeap, Nd.cells, getF, tys]
    exact ⟨_, rfl, rfl, kp.upd⟩
theorem cStKey (h : StL H n S L r a s ta ts fv x) (o : SOk x) (i : Int) (hi : I32ok i) :
    HCalls Try.prog 51 [.ptr S 4 0 0, .sc (.int .i32 i)] H n fun v H' n' => v = .tup [.sc (.int .u64 (raAt x.R i).key), .sc (.bool (!decide (i = 0)))] ∧ Keeps H n H' n' := by
  have hS := h.hS
  by_cases h0 : i = 0
  · subst h0
    refine HCalls.walk Try.func51 rfl rfl Try.ntmps51 Try.results51 (by simp) ?_; simp (maxSteps := 400000) (dsimp := false) only [hS, axs, AThen, ABlock, dstsOk, AStep, callsF, AWant, aop, AS.ev, AS.put, upd, AS.bound, abin, aint, aload, astore, cellsAt, AV.cells, alen, elems, AV.int?, FPost, aresL, ares1, pack, afill, splice, Value.oneCell', Nat.reduceLT, Nat.reduceLeDiff, Nat.reduceEqDiff, Nat.reduceAdd, Nat.reduceMul, Nat.reduceSub, Nat.reduceBEq, Int.reduceLE, Int.reduceLT, Int.reduceToNat, Int.reduceNeg, Int.reduceEq, axt, ftK, ft3, pickP, AScope, AAll, pickQ, ftQ, inHeap, Nd.cells, getF, tys]
    refine ACallK.heap _ rfl (cRAt h.l.ar o.i.inv.ok 0 hi) ?_; rintro r' H' n' ⟨rfl, eH, en⟩; obtain rfl := eH.symm; obtain rfl := en.symm; clear eH en; simp (maxSteps := 400000) (dsimp := false) only [axs, AThen, ABlock, dstsOk, AStep, callsF, AWant, aop, AS.ev, AS.put, upd, AS.bound, abin, aint, aload, astore, cellsAt, AV.cells, alen, elems, AV.int?, FPost, aresL, ares1, pack, afill, splice, Value.oneCell', Nat.reduceLT, Nat.reduceLeDiff, Nat.reduceEqDiff, Nat.reduceAdd, Nat.reduceMul, Nat.reduceSub, Nat.reduceBEq, Int.reduceLE, Int.reduceLT, Int.reduceToNat, Int.reduceNeg, Int.reduceEq, axt, ftK, ft3, pickP, AScope, AAll, pickQ, ftQ, inHeap, Nd.cells, getF, tys]
    exact ⟨_, rfl, rfl, (Keeps.refl _ _).upd⟩
  · refine HCalls.walk Try.func51 rfl rfl Try.ntmps51 Try.results51 (by simp) ?_; simp (maxSteps := 400000) (dsimp := false) only [hS, axs, AThen, ABlock, dstsOk, AStep, callsF, AWant, aop, AS.ev, AS.put, upd, AS.bound, abin, aint, aload, astore, cellsAt, AV.cells, alen, elems, AV.int?, FPost, aresL, ares1, pack, afill, splice, Value.oneCell', Nat.reduceLT, Nat.reduceLeDiff, Nat.reduceEqDiff, Nat.reduceAdd, Nat.reduceMul, Nat.reduceSub, Nat.reduceBEq, Int.reduceLE, Int.reduceLT, Int.reduceToNat, Int.reduceNeg, Int.reduceEq, axt, ftK, ft3, pickP, AScope, AAll, pickQ, ftQ, inHeap, Nd.cells, getF, tys]
    refine ACallK.heap _ rfl (cRAt h.l.ar o.i.inv.ok i hi) ?_; rintro r' H' n' ⟨rfl, eH, en⟩; obtain rfl := eH.symm; obtain rfl := en.symm; clear eH en; simp (maxSteps := 400000) (dsimp := false) only [h0, axs, AThen, ABlock, dstsOk, AStep, callsF, AWant, aop, AS.ev, AS.put, upd, AS.bound, abin, aint, aload, astore, cellsAt, AV.cells, alen, elems, AV.int?, FPost, aresL, ares1, pack, afill, splice, Value.oneCell', Nat.reduceLT, Nat.reduceLeDiff, Nat.reduceEqDiff, Nat.reduceAdd, Nat.reduceMul, Nat.reduceSub, Nat.reduceBEq, Int.reduceLE, Int.reduceLT, Int.reduceToNat, Int.reduceNeg, Int.reduceEq, axt, ftK, ft3, pickP, AScope, AAll, pickQ, ftQ, inHeap, Nd.cells, getF, tys]
    exact ⟨_, rfl, rfl, (Keeps.refl _ _).upd⟩
theorem cStFront (h : StL H n S L r a s ta ts fv x) (o : SOk x) (q : Int) :
    HCalls Try.prog 23 [.ptr S 4 0 0, .sc (.int .i64 q)] H n fun v H' n' => v = .tup [.sc (.int .u64 (raAt x.R (frontR x.rows q)).key), .sc (.bool (!decide (frontR x.rows q = 0)))] ∧ Keeps H n H' n' := by
  have hS := h.hS
  have cf : HCalls Try.prog 52 [.ptr L 2 0 0, .sc (.int .i64 q)] H n fun v H' n' => v = .sc (.int .i32 (frontR x.rows q)) ∧ H' = H ∧ n' = n := cLsFront h.l q
  have hi := (o.fine i32_0).front q
  refine HCalls.walk Try.func23 rfl rfl Try.ntmps23 Try.results23 (by simp) ?_; simp (maxSteps := 400000) (dsimp := false) only [hS, axs, AThen, ABlock, dstsOk, AStep, callsF, AWant, aop, AS.ev, AS.put, upd, AS.bound, abin, aint, aload, astore, cellsAt, AV.cells, alen, elems, AV.int?, FPost, aresL, ares1, pack, afill, splice, Value.oneCell', Nat.reduceLT, Nat.reduceLeDiff, Nat.reduceEqDiff, Nat.reduceAdd, Nat.reduceMul, Nat.reduceSub, Nat.reduceBEq, Int.reduceLE, Int.reduceLT, Int.reduceToNat, Int.reduceNeg, Int.reduceEq, axt, ftK, ft3, pickP, AScope, AAll, pickQ, ftQ, inHeap, Nd.cells, getF, tys]
  refine ACallK.heap _ rfl (cf) ?_; rintro r' H' n' ⟨rfl, eH, en⟩; obtain rfl := eH.symm; obtain rfl := en.symm; clear eH en; simp (maxSteps := 400000) (dsimp := false) only [axs, AThen, ABlock, dstsOk, AStep, callsF, AWant, aop, AS.ev, AS.put, upd, AS.bound, abin, aint, aload, astore, cellsAt, AV.cells, alen, elems, AV.int?, FPost, aresL, ares1, pack, afill, splice, Value.oneCell', Nat.reduceLT, Nat.reduceLeDiff, Nat.reduceEqDiff, Nat.reduceAdd, Nat.reduceMul, Nat.reduceSub, Nat.reduceBEq, Int.reduceLE, Int.reduceLT, Int.reduceToNat, Int.reduceNeg, Int.reduceEq, axt, ftK, ft3, pickP, AScope, AAll, pickQ, ftQ, inHeap, Nd.cells, getF, tys]
  refine ACallK.heap _ rfl (cStKey h o _ hi) ?_
  rintro v H2 n2 ⟨rfl, kp⟩
  simp (maxSteps := 400000) (dsimp := false) only [axs, AThen, ABlock, dstsOk, AStep, callsF, AWant, aop, AS.ev, AS.put, upd, AS.bound, abin, aint, aload, astore, cellsAt, AV.cells, alen, elems, AV.int?, FPost, aresL, ares1, pack, afill, splice, Value.oneCell', Nat.reduceLT, Nat.reduceLeDiff, Nat.reduceEqDiff, Nat.reduceAdd, Nat.reduceMul, Nat.reduceSub, Nat.reduceBEq, Int.reduceLE, Int.reduceLT, Int.reduceToNat, Int.reduceNeg, Int.reduceEq, axt, ftK, ft3, pickP, AScope, AAll, pickQ, ftQ, inHeap, Nd.cells, getF, tys]
  exact ⟨_, rfl, rfl, kp⟩
theorem cStBack (h : StL H n S L r a s ta ts fv x) (o : SOk x) (q : Int) :
    HCalls Try.prog 24 [.ptr S 4 0 0, .sc (.int .i64 q)] H n fun v H' n' => v = .tup [.sc (.int .u64 (raAt x.R (backR x.rows q)).key), .sc (.bool (!decide (backR x.rows q = 0)))] ∧ Keeps H n H' n' := by
  have hS := h.hS
  have cf : HCalls Try.prog 53 [.ptr L 2 0 0, .sc (.int .i64 q)] H n fun v H' n' => v = .sc (.int .i32 (backR x.rows q)) ∧ H' = H ∧ n' = n := cLsBack h.l q
  have hi := (o.fine i32_0).back q
  refine HCalls.walk Try.func24 rfl rfl Try.ntmps24 Try.results24 (by simp) ?_; simp (maxSteps := 400000) (dsimp := false) only [hS, axs, AThen, ABlock, dstsOk, AStep, callsF, AWant, aop, AS.ev, AS.put, upd, AS.bound, abin, aint, aload, astore, cellsAt, AV.cells, alen, elems, AV.int?, FPost, aresL, ares1, pack, afill, splice, Value.oneCell', Nat.reduceLT, Nat.reduceLeDiff, Nat.reduceEqDiff, Nat.reduceAdd, Nat.reduceMul, Nat.reduceSub, Nat.reduceBEq, Int.reduceLE, Int.reduceLT, Int.reduceToNat, Int.reduceNeg, Int.reduceEq, axt, ftK, ft3, pickP, AScope, AAll, pickQ, ftQ, inHeap, Nd.cells, getF, tys]
  refine ACallK.heap _ rfl (cf) ?_; rintro r' H' n' ⟨rfl, eH, en⟩; obtain rfl := eH.symm; obtain rfl := en.symm; clear eH en; simp (maxSteps := 400000) (dsimp := false) only [axs, AThen, ABlock, dstsOk, AStep, callsF, AWant, aop, AS.ev, AS.put, upd, AS.bound, abin, aint, aload, astore, cellsAt, AV.cells, alen, elems, AV.int?, FPost, aresL, ares1, pack, afill, splice, Value.oneCell', Nat.reduceLT, Nat.reduceLeDiff, Nat.reduceEqDiff, Nat.reduceAdd, Nat.reduceMul, Nat.reduceSub, Nat.reduceBEq, Int.reduceLE, Int.reduceLT, Int.reduceToNat, Int.reduceNeg, Int.reduceEq, axt, ftK, ft3, pickP, AScope, AAll, pickQ, ftQ, inHeap, Nd.cells, getF, tys]
  refine ACallK.heap _ rfl (cStKey h o _ hi) ?_
  rintro v H2 n2 ⟨rfl, kp⟩
  simp (maxSteps := 400000) (dsimp := false) only [axs, AThen, ABlock, dstsOk, AStep, callsF, AWant, aop, AS.ev, AS.put, upd, AS.bound, abin, aint, aload, astore, cellsAt, AV.cells, alen, elems, AV.int?, FPost, aresL, ares1, pack, afill, splice, Value.oneCell', Nat.reduceLT, Nat.reduceLeDiff, Nat.reduceEqDiff, Nat.reduceAdd, Nat.reduceMul, Nat.reduceSub, Nat.reduceBEq, Int.reduceLE, Int.reduceLT, Int.reduceToNat, Int.reduceNeg, Int.reduceEq, axt, ftK, ft3, pickP, AScope, AAll, pickQ, ftQ, inHeap, Nd.cells, getF, tys]
  exact ⟨_, rfl, rfl, kp⟩
def lenQ (rows : List Rw) (t : Int) : Int := if 0 ≤ t ∧ t < rows.length then (rows.getD t.toNat r0).n else 0
theorem cStLen (h : StL H n S L r a s ta ts fv x) (q : Int) :
    HCalls Try.prog 31 [.ptr S 4 0 0, .sc (.int .i64 q)] H n fun v H' n' => v = .sc (.int .i64 (lenQ x.rows q)) ∧ H' = H ∧ n' = n := by
  have hS := h.hS
  have cf : HCalls Try.prog 64 [.ptr L 2 0 0, .sc (.int .i64 q)] H n fun v H' n' => v = .sc (.int .i64 (lenQ x.rows q)) ∧ H' = H ∧ n' = n := cLsLen h.l q
  refine HCalls.walk Try.func31 rfl rfl Try.ntmps31 Try.results31 (by simp) ?_; simp (maxSteps := 400000) (dsimp := false) only [hS, axs, AThen, ABlock, dstsOk, AStep, callsF, AWant, aop, AS.ev, AS.put, upd, AS.bound, abin, aint, aload, astore, cellsAt, AV.cells, alen, elems, AV.int?, FPost, aresL, ares1, pack, afill, splice, Value.oneCell', Nat.reduceLT, Nat.reduceLeDiff, Nat.reduceEqDiff, Nat.reduceAdd, Nat.reduceMul, Nat.reduceSub, Nat.reduceBEq, Int.reduceLE, Int.reduceLT, Int.reduceToNat, Int.reduceNeg, Int.reduceEq, axt, ftK, ft3, pickP, AScope, AAll, pickQ, ftQ, inHeap, Nd.cells, getF, tys]
  refine ACallK.heap _ rfl (cf) ?_; rintro r' H' n' ⟨rfl, eH, en⟩; obtain rfl := eH.symm; obtain rfl := en.symm; clear eH en; simp (maxSteps := 400000) (dsimp := false) only [axs, AThen, ABlock, dstsOk, AStep, callsF, AWant, aop, AS.ev, AS.put, upd, AS.bound, abin, aint, aload, astore, cellsAt, AV.cells, alen, elems, AV.int?, FPost, aresL, ares1, pack, afill, splice, Value.oneCell', Nat.reduceLT, Nat.reduceLeDiff, Nat.reduceEqDiff, Nat.reduceAdd, Nat.reduceMul, Nat.reduceSub, Nat.reduceBEq, Int.reduceLE, Int.reduceLT, Int.reduceToNat, Int.reduceNeg, Int.reduceEq, axt, ftK, ft3, pickP, AScope, AAll, pickQ, ftQ, inHeap, Nd.cells, getF, tys]
  exact ⟨_, rfl, rfl⟩
theorem cStTotal (h : StL H n S L r a s ta ts fv x) :
    HCalls Try.prog 13 [.ptr S 4 0 0] H n fun v H' n' => v = .sc (.int .i64 (cnt x.T)) ∧ H' = H ∧ n' = n := by
  have hS := h.hS
  refine HCalls.walk Try.func13 rfl rfl Try.ntmps13 Try.results13 (by simp) ?_; simp (maxSteps := 400000) (dsimp := false) only [hS, axs, AThen, ABlock, dstsOk, AStep, callsF, AWant, aop, AS.ev, AS.put, upd, AS.bound, abin, aint, aload, astore, cellsAt, AV.cells, alen, elems, AV.int?, FPost, aresL, ares1, pack, afill, splice, Value.oneCell', Nat.reduceLT, Nat.reduceLeDiff, Nat.reduceEqDiff, Nat.reduceAdd, Nat.reduceMul, Nat.reduceSub, Nat.reduceBEq, Int.reduceLE, Int.reduceLT, Int.reduceToNat, Int.reduceNeg, Int.reduceEq, axt, ftK, ft3, pickP, AScope, AAll, pickQ, ftQ, inHeap, Nd.cells, getF, tys]
  refine ACallK.heap _ rfl (cHtLen h.t) ?_; rintro r' H' n' ⟨rfl, eH, en⟩; obtain rfl := eH.symm; obtain rfl := en.symm; clear eH en; simp (maxSteps := 400000) (dsimp := false) only [axs, AThen, ABlock, dstsOk, AStep, callsF, AWant, aop, AS.ev, AS.put, upd, AS.bound, abin, aint, aload, astore, cellsAt, AV.cells, alen, elems, AV.int?, FPost, aresL, ares1, pack, afill, splice, Value.oneCell', Nat.reduceLT, Nat.reduceLeDiff, Nat.reduceEqDiff, Nat.reduceAdd, Nat.reduceMul, Nat.reduceSub, Nat.reduceBEq, Int.reduceLE, Int.reduceLT, Int.reduceToNat, Int.reduceNeg, Int.reduceEq, axt, ftK, ft3, pickP, AScope, AAll, pickQ, ftQ, inHeap, Nd.cells, getF, tys]
  exact ⟨_, rfl, rfl⟩
theorem cStRooms (h : StL H n S L r a s ta ts fv x) (o : SOk x) :
    HCalls Try.prog 14 [.ptr S 4 0 0] H n fun v H' n' => v = .tup [.sc (.int .i64 x.R.len), .sc (.int .i64 x.T.length)] ∧ H' = H ∧ n' = n := by
  have hS := h.hS
  refine HCalls.walk Try.func14 rfl rfl Try.ntmps14 Try.results14 (by simp) ?_; simp (maxSteps := 400000) (dsimp := false) only [axs, AThen, ABlock, dstsOk, AStep, callsF, AWant, aop, AS.ev, AS.put, upd, AS.bound, abin, aint, aload, astore, cellsAt, AV.cells, alen, elems, AV.int?, FPost, aresL, ares1, pack, afill, splice, Value.oneCell', Nat.reduceLT, Nat.reduceLeDiff, Nat.reduceEqDiff, Nat.reduceAdd, Nat.reduceMul, Nat.reduceSub, Nat.reduceBEq, Int.reduceLE, Int.reduceLT, Int.reduceToNat, Int.reduceNeg, Int.reduceEq, axt, ftK, ft3, pickP, AScope, AAll, pickQ, ftQ, inHeap, Nd.cells, getF, tys]
  refine ADraw.planQR [] [4, 9] [(0, true), (1, true), (2, true), (3, true), (5, true), (6, true), (7, true), (8, true), (4, true), (9, true), (10, true), (11, true)] [(0, 0), (0, 0), (0, 0), (0, 0), (1, 0), (1, 0), (1, 0), (1, 0), (0, 2), (0, 2), (0, 0), (0, 0)] mixed (by kernel_rfl) (by kernel_rfl) ?_
  simp (maxSteps := 400000) (dsimp := false) only [hS, axs, AThen, ABlock, dstsOk, AStep, callsF, AWant, aop, AS.ev, AS.put, upd, AS.bound, abin, aint, aload, astore, cellsAt, AV.cells, alen, elems, AV.int?, FPost, aresL, ares1, pack, afill, splice, Value.oneCell', Nat.reduceLT, Nat.reduceLeDiff, Nat.reduceEqDiff, Nat.reduceAdd, Nat.reduceMul, Nat.reduceSub, Nat.reduceBEq, Int.reduceLE, Int.reduceLT, Int.reduceToNat, Int.reduceNeg, Int.reduceEq, axt, ftK, ft3, pickP, AScope, AAll, pickQ, ftQ, inHeap, Nd.cells, getF, tys]
  refine AQuietK.intro rfl rfl (cRLen h.l.ar o.i.inv.ok) (fun _ _ => rfl) ?_
  simp (maxSteps := 400000) (dsimp := false) only [hS, axs, AThen, ABlock, dstsOk, AStep, callsF, AWant, aop, AS.ev, AS.put, upd, AS.bound, abin, aint, aload, astore, cellsAt, AV.cells, alen, elems, AV.int?, FPost, aresL, ares1, pack, afill, splice, Value.oneCell', Nat.reduceLT, Nat.reduceLeDiff, Nat.reduceEqDiff, Nat.reduceAdd, Nat.reduceMul, Nat.reduceSub, Nat.reduceBEq, Int.reduceLE, Int.reduceLT, Int.reduceToNat, Int.reduceNeg, Int.reduceEq, axt, ftK, ft3, pickP, AScope, AAll, pickQ, ftQ, inHeap, Nd.cells, getF, tys]
  refine AQuietK.intro rfl rfl (cHtSlots h.t) (fun _ _ => rfl) ?_
  simp (maxSteps := 400000) (dsimp := false) only [axs, AThen, ABlock, dstsOk, AStep, callsF, AWant, aop, AS.ev, AS.put, upd, AS.bound, abin, aint, aload, astore, cellsAt, AV.cells, alen, elems, AV.int?, FPost, aresL, ares1, pack, afill, splice, Value.oneCell', Nat.reduceLT, Nat.reduceLeDiff, Nat.reduceEqDiff, Nat.reduceAdd, Nat.reduceMul, Nat.reduceSub, Nat.reduceBEq, Int.reduceLE, Int.reduceLT, Int.reduceToNat, Int.reduceNeg, Int.reduceEq, axt, ftK, ft3, pickP, AScope, AAll, pickQ, ftQ, inHeap, Nd.cells, getF, tys]
  exact ⟨_, rfl, rfl⟩
end
end Go.Al
end
section
set_option linter.unusedVariables false
set_option linter.unusedSimpArgs false
set_option maxRecDepth 20000
set_option maxHeartbeats 1600000
-- axs, AThen, ABlock, dstsOk, AStep, callsF, AWant, aop, AS.ev, AS.put, upd, AS.bound, abin, aint, aload, astore, cellsAt, AV.cells, alen, elems, AV.int?, FPost, aresL, ares1, pack, afill, splice, Value.oneCell', Nat.reduceLT, Nat.reduceLeDiff, Nat.reduceEqDiff, Nat.reduceAdd, Nat.reduceMul, Nat.reduceSub, Nat.reduceBEq, Int.reduceLE, Int.reduceLT, Int.reduceToNat, Int.reduceNeg, Int.reduceEq, axt, ftK, ft3, pickP, AScope, AAll, pickQ, ftQ, inHeap, Nd.cells, getF, tys: Nd.cells, getF
namespace Go.Al
open Go.Proofs
/-- A store that a call has turned. -/
structure StTo (H : AH) (n S L r a s ta ts : Nat) (fv : AV) (H' : AH) (n' : Nat) (x' : SS) : Prop where
  le : n ≤ n'
  keep : ∀ j, j < n → ¬ stOwn S L r a s ta ts fv j → H' j = H j
  at_ : ∃ s' ts' fv', StL H' n' S L r a s' ta ts' fv' x' ∧ ∀ j, stOwn S L r a s' ta ts' fv' j → stOwn S L r a s ta ts fv j ∨ n ≤ j
section
variable {H H' H1 H2 : AH} {n n' n1 n2 S L r a s ta ts s1 ts1 : Nat} {fv fv1 : AV} {x x' : SS}
theorem StTo.same (h : StL H n S L r a s ta ts fv x) : StTo H n S L r a s ta ts fv H n x := ⟨Nat.le_refl _, fun _ _ _ => rfl, s, ts, fv, h, fun _ h => .inl h⟩
theorem StTo.then (hle : n ≤ n1) (hkeep : ∀ j, j < n → ¬ stOwn S L r a s ta ts fv j → H1 j = H j) (hown : ∀ j, stOwn S L r a s1 ta ts1 fv1 j → stOwn S L r a s ta ts fv j ∨ n ≤ j)
    (h2 : StTo H1 n1 S L r a s1 ta ts1 fv1 H2 n2 x') : StTo H n S L r a s ta ts fv H2 n2 x' := by
  obtain ⟨k1, k2, s2, ts2, fv2, k3, k4⟩ := h2
  refine ⟨by omega, fun j hj ho => ?_, s2, ts2, fv2, k3, fun j hj => ?_⟩
  · rw [k2 j (by omega) (fun h => ?_), hkeep j hj ho]
    rcases hown j h with h | h
    · exact ho h
    · omega
  · rcases k4 j hj with h | h
    · exact hown j h
    · exact .inr (by omega)
theorem StTo.after (kp : Keeps H n H1 n1) (h2 : StTo H1 n1 S L r a s ta ts fv H2 n2 x') : StTo H n S L r a s ta ts fv H2 n2 x' :=
  StTo.then kp.1 (fun j hj _ => kp.2 j hj) (fun _ h => .inl h) h2
theorem StL.nodes (h : StL H n S L r a s ta ts fv x) {R' : RA} (to : ArTo H n a s fv H' n' (arnOf R')) : StTo H n S L r a s ta ts fv H' n' ⟨R', x.rows, x.ls, x.T⟩ := by
  obtain ⟨k1, k2, s', fv', k3, k4⟩ := to
  obtain ⟨⟨a1, a2, a3, a4, a5⟩, ⟨b1, b2, b3⟩, ⟨c1, c2, c3⟩⟩ := h.sep
  have lL := h.l.lL
  have lr := h.l.lr
  have lS := h.lS
  have la := h.t.la
  have ls := h.t.ls
  have no : ∀ j, j < n → ¬ ArOwn a s fv j → ¬ ArOwn a s' fv' j := fun j hj ho h => by
    rcases k4 j h with h | h
    · exact ho h
    · omega
  refine ⟨k1, fun j hj ho => k2 j hj (fun h => ho (.inr (.inr (.inr (.inl h))))), s', ts, fv', ⟨?_, ⟨?_, ?_, k3, by omega, by omega, no L lL h.l.nL, no r lr h.l.nr⟩, ?_, by omega⟩, ?_⟩
  · rw [k2 S lS a3]; exact h.hS
  · rw [k2 L lL h.l.nL]; exact h.l.hL
  · rw [k2 r lr h.l.nr]; exact h.l.hr
  · exact h.t.keep k1 fun j hj e => by
      rcases e with rfl | rfl
      · exact k2 _ hj b3
      · exact k2 _ hj c3
  · rintro j (h | h | h | h | h | h)
    · exact .inl (.inl h)
    · exact .inl (.inr (.inl h))
    · exact .inl (.inr (.inr (.inl h)))
    · rcases k4 j h with h | h
      · exact .inl (.inr (.inr (.inr (.inl h))))
      · exact .inr h
    · exact .inl (.inr (.inr (.inr (.inr (.inl h)))))
    · exact .inl (.inr (.inr (.inr (.inr (.inr h)))))
theorem StL.lists (h : StL H n S L r a s ta ts fv x) {R' : RA} {rows' : List Rw} (to : LsTo H n L r a s fv H' n' R' rows') (hl : rows'.length = x.rows.length) (ls' : List (List Int)) : StTo H n S L r a s ta ts fv H' n' ⟨R', rows', ls', x.T⟩ := by
  obtain ⟨⟨a1, a2, a3, a4, a5⟩, ⟨b1, b2, b3⟩, ⟨c1, c2, c3⟩⟩ := h.sep
  have ss : S ≠ s := fun e => a3 (.inr (.inl e))
  have ks : ta ≠ s := fun e => b3 (.inr (.inl e))
  have us : ts ≠ s := fun e => c3 (.inr (.inl e))
  have lS := h.lS
  have hle := to.le
  refine ⟨to.le, fun j hj ho => to.keep j hj (fun e => ho (.inr (.inr (.inl e)))) (fun e => ho (.inr (.inr (.inr (.inl (.inr (.inl e))))))), s, ts, fv, ⟨?_, to.ls, ?_, by omega⟩, fun _ h => .inl h⟩
  · rw [to.keep S h.lS a2 ss, hl]; exact h.hS
  · exact h.t.keep to.le fun j hj e => by
      rcases e with rfl | rfl
      · exact to.keep _ hj b2 ks
      · exact to.keep _ hj c2 us
theorem StL.table (h : StL H n S L r a s ta ts fv x) {T' : Tb} (to : HtTo H n ta ts H' n' T') : StTo H n S L r a s ta ts fv H' n' ⟨x.R, x.rows, x.ls, T'⟩ := by
  obtain ⟨k1, k2, ts', k3, k4⟩ := to
  obtain ⟨⟨a1, a2, a3, a4, a5⟩, ⟨b1, b2, b3⟩, ⟨c1, c2, c3⟩⟩ := h.sep
  have lL := h.l.lL
  have lr := h.l.lr
  have lS := h.lS
  refine ⟨k1, fun j hj ho => k2 j hj (fun e => ho (.inr (.inr (.inr (.inr (.inl e)))))) (fun e => ho (.inr (.inr (.inr (.inr (.inr e)))))), s, ts', fv, ⟨?_, ⟨?_, ?_, ?_, by omega, by omega, h.l.nL, h.l.nr⟩, k3, by omega⟩, ?_⟩
  · rw [k2 S lS a4 a5]; exact h.hS
  · rw [k2 L lL (fun e => b1 e.symm) (fun e => c1 e.symm)]; exact h.l.hL
  · rw [k2 r lr (fun e => b2 e.symm) (fun e => c2 e.symm)]; exact h.l.hr
  · exact h.l.ar.keep k1 fun j hj ho => k2 j hj (fun e => b3 (by rw [← e]; exact ho)) (fun e => c3 (by rw [← e]; exact ho))
  · rintro j (h | h | h | h | h | h)
    · exact .inl (.inl h)
    · exact .inl (.inr (.inl h))
    · exact .inl (.inr (.inr (.inl h)))
    · exact .inl (.inr (.inr (.inr (.inl h))))
    · exact .inl (.inr (.inr (.inr (.inr (.inl h)))))
    · rcases k4 with e | e
      · exact .inl (.inr (.inr (.inr (.inr (.inr (h.trans e))))))
      · exact .inr (by omega)
def setS (x : SS) (k : Int) (g : Nd → Nd) : SS := if nodeI x.T k = 0 then x else ⟨wth x.R (nodeI x.T k) g, x.rows, x.ls, x.T⟩
def isIn (x : SS) (k : Int) : Bool := !decide (nodeI x.T k = 0)
theorem cStWith (h : StL H n S L r a s ta ts fv x) (o : SOk x) {k : Int} (hk : Key k) {f : Nat} {caps : List AV} {g : Nd → Nd} (hg : Turns H n f caps g) :
    HCalls Try.prog 61 [.ptr S 4 0 0, .sc (.int .u64 k), .fn f caps] H n fun v H' n' => v = .sc (.bool (isIn x k)) ∧ StTo H n S L r a s ta ts fv H' n' (setS x k g) := by
  have ok := o.i.inv.ok
  have hi := o.node32 k
  refine HCalls.walk Try.func61 rfl rfl Try.ntmps61 Try.results61 (by simp) ?_; simp (maxSteps := 400000) (dsimp := false) only [axs, AThen, ABlock, dstsOk, AStep, callsF, AWant, aop, AS.ev, AS.put, upd, AS.bound, abin, aint, aload, astore, cellsAt, AV.cells, alen, elems, AV.int?, FPost, aresL, ares1, pack, afill, splice, Value.oneCell', Nat.reduceLT, Nat.reduceLeDiff, Nat.reduceEqDiff, Nat.reduceAdd, Nat.reduceMul, Nat.reduceSub, Nat.reduceBEq, Int.reduceLE, Int.reduceLT, Int.reduceToNat, Int.reduceNeg, Int.reduceEq, axt, ftK, ft3, pickP, AScope, AAll, pickQ, ftQ, inHeap, Nd.cells, getF, tys]
  refine ACallK.heap _ rfl (cStNode h o hk) ?_
  rintro v H2 n2 ⟨rfl, kp⟩
  have kp : Keeps H n H2 n2 := kp
  have h2 := h.keeps kp
  have hS := h2.hS
  have lS := h2.lS
  by_cases h0 : nodeI x.T k = 0
  · have e1 : isIn x k = false := by unfold isIn; rw [h0]; rfl
    have e2 : setS x k g = x := if_pos h0
    rw [e1, e2]
    simp (maxSteps := 400000) (dsimp := false) only [h0, axs, AThen, ABlock, dstsOk, AStep, callsF, AWant, aop, AS.ev, AS.put, upd, AS.bound, abin, aint, aload, astore, cellsAt, AV.cells, alen, elems, AV.int?, FPost, aresL, ares1, pack, afill, splice, Value.oneCell', Nat.reduceLT, Nat.reduceLeDiff, Nat.reduceEqDiff, Nat.reduceAdd, Nat.reduceMul, Nat.reduceSub, Nat.reduceBEq, Int.reduceLE, Int.reduceLT, Int.reduceToNat, Int.reduceNeg, Int.reduceEq, axt, ftK, ft3, pickP, AScope, AAll, pickQ, ftQ, inHeap, Nd.cells, getF, tys]
    exact ⟨_, rfl, rfl, StTo.after kp (StTo.same h2)⟩
  · have e1 : isIn x k = true := by unfold isIn; rw [decide_eq_false h0]; rfl
    have e2 : setS x k g = ⟨wth x.R (nodeI x.T k) g, x.rows, x.ls, x.T⟩ := if_neg h0
    rw [e1, e2]
    have hlive : raIs x.R (nodeI x.T k) = true := by
      rcases o.i.node k with ⟨h1, _⟩ | ⟨h1, _⟩
      · exact h1
      · exact absurd h1 h0
    have hset : (raSet x.R (nodeI x.T k) (g (raAt x.R (nodeI x.T k)))).2 = true := by unfold raSet; rw [if_pos hlive]
    have ne1 : ¬ S = n2 := by omega
    have ne2 : ¬ S = n2 + 1 := by omega
    have k3 := (Keeps.refl H2 n2).upd (x := some (.obj 82 6 [(raAt x.R (nodeI x.T k)).cells] false))
    have k4 := k3.upd (x := some (.obj 82 6 [(raAt x.R (nodeI x.T k)).cells] false))
    have k5 := k3.upd (x := some (.obj 82 6 [(g (raAt x.R (nodeI x.T k))).cells] false))
    have h5 := h2.keeps k5
    simp (maxSteps := 400000) (dsimp := false) only [h0, hS, axs, AThen, ABlock, dstsOk, AStep, callsF, AWant, aop, AS.ev, AS.put, upd, AS.bound, abin, aint, aload, astore, cellsAt, AV.cells, alen, elems, AV.int?, FPost, aresL, ares1, pack, afill, splice, Value.oneCell', Nat.reduceLT, Nat.reduceLeDiff, Nat.reduceEqDiff, Nat.reduceAdd, Nat.reduceMul, Nat.reduceSub, Nat.reduceBEq, Int.reduceLE, Int.reduceLT, Int.reduceToNat, Int.reduceNeg, Int.reduceEq, axt, ftK, ft3, pickP, AScope, AAll, pickQ, ftQ, inHeap, Nd.cells, getF, tys]
    refine ACallK.heap _ rfl (cRAt h2.l.ar ok (nodeI x.T k) hi) ?_; rintro r' H' n' ⟨rfl, eH, en⟩; obtain rfl := eH.symm; obtain rfl := en.symm; clear eH en; simp (maxSteps := 400000) (dsimp := false) only [hS, ne1, ne2, axs, AThen, ABlock, dstsOk, AStep, callsF, AWant, aop, AS.ev, AS.put, upd, AS.bound, abin, aint, aload, astore, cellsAt, AV.cells, alen, elems, AV.int?, FPost, aresL, ares1, pack, afill, splice, Value.oneCell', Nat.reduceLT, Nat.reduceLeDiff, Nat.reduceEqDiff, Nat.reduceAdd, Nat.reduceMul, Nat.reduceSub, Nat.reduceBEq, Int.reduceLE, Int.reduceLT, Int.reduceToNat, Int.reduceNeg, Int.reduceEq, axt, ftK, ft3, pickP, AScope, AAll, pickQ, ftQ, inHeap, Nd.cells, getF, tys]
    simp only [upd_upd]
    refine ACallK.heap _ rfl (hg (raAt x.R (nodeI x.T k)) _ _ (n2 + 1) (kp.trans k4) (by have := kp.1; omega) (Nat.lt_succ_self _) (by simp [upd, neS]; rfl)) ?_
    rintro v H' n' ⟨rfl, rfl, rfl⟩
    rw [upd_upd]
    simp (maxSteps := 400000) (dsimp := false) only [axs, AThen, ABlock, dstsOk, AStep, callsF, AWant, aop, AS.ev, AS.put, upd, AS.bound, abin, aint, aload, astore, cellsAt, AV.cells, alen, elems, AV.int?, FPost, aresL, ares1, pack, afill, splice, Value.oneCell', Nat.reduceLT, Nat.reduceLeDiff, Nat.reduceEqDiff, Nat.reduceAdd, Nat.reduceMul, Nat.reduceSub, Nat.reduceBEq, Int.reduceLE, Int.reduceLT, Int.reduceToNat, Int.reduceNeg, Int.reduceEq, axt, ftK, ft3, pickP, AScope, AAll, pickQ, ftQ, inHeap, Nd.cells, getF, tys]
    refine ADraw.planQR [6] [] [(0, true), (1, true), (2, true), (3, true), (4, true), (5, true), (6, true), (7, true)] [(0, 0), (0, 0), (0, 0), (0, 0), (0, 0), (0, 0), (0, 1), (0, 0)] mixed (by kernel_rfl) (by kernel_rfl) ?_
    simp (maxSteps := 400000) (dsimp := false) only [hS, ne1, ne2, axs, AThen, ABlock, dstsOk, AStep, callsF, AWant, aop, AS.ev, AS.put, upd, AS.bound, abin, aint, aload, astore, cellsAt, AV.cells, alen, elems, AV.int?, FPost, aresL, ares1, pack, afill, splice, Value.oneCell', Nat.reduceLT, Nat.reduceLeDiff, Nat.reduceEqDiff, Nat.reduceAdd, Nat.reduceMul, Nat.reduceSub, Nat.reduceBEq, Int.reduceLE, Int.reduceLT, Int.reduceToNat, Int.reduceNeg, Int.reduceEq, axt, ftK, ft3, pickP, AScope, AAll, pickQ, ftQ, inHeap, Nd.cells, getF, tys]
    refine ASoloK.heap rfl rfl (cRSet h5.l.ar ok (nodeI x.T k) hi (g (raAt x.R (nodeI x.T k)))) ?_; simp (maxSteps := 400000) (dsimp := false) only [hset, axs, AThen, ABlock, dstsOk, AStep, callsF, AWant, aop, AS.ev, AS.put, upd, AS.bound, abin, aint, aload, astore, cellsAt, AV.cells, alen, elems, AV.int?, FPost, aresL, ares1, pack, afill, splice, Value.oneCell', Nat.reduceLT, Nat.reduceLeDiff, Nat.reduceEqDiff, Nat.reduceAdd, Nat.reduceMul, Nat.reduceSub, Nat.reduceBEq, Int.reduceLE, Int.reduceLT, Int.reduceToNat, Int.reduceNeg, Int.reduceEq, axt, ftK, ft3, pickP, AScope, AAll, pickQ, ftQ, inHeap, Nd.cells, getF, tys]
    exact ⟨_, rfl, rfl, StTo.after (kp.trans k5) (h5.nodes (ArTo.setR h5.l.ar ok (nodeI x.T k) (g (raAt x.R (nodeI x.T k)))))⟩
def gVal (v : Int) (x : Nd) : Nd := ⟨x.key, v, x.flag, x.tag, x.prev, x.next⟩
def gFlag (v : Int) (x : Nd) : Nd := ⟨x.key, x.val, v, x.tag, x.prev, x.next⟩
theorem cStSetVal (h : StL H n S L r a s ta ts fv x) (o : SOk x) {k : Int} (hk : Key k) (v : Int) :
    HCalls Try.prog 29 [.ptr S 4 0 0, .sc (.int .u64 k), .sc (.int .u64 v)] H n fun y H' n' => y = .sc (.bool (isIn x k)) ∧ StTo H n S L r a s ta ts fv H' n' (setS x k (gVal v)) := by
  have kb := (Keeps.refl H n).upd (x := some (.obj 34 1 [[.sc (.int .u64 v)]] false))
  have hg : Turns (upd H n (some (.obj 34 1 [[.sc (.int .u64 v)]] false))) (n + 1) 62 [.ptr n 1 0 0] (gVal v) := by
    intro x H1 n1 p hk h1 h2 hp
    have hb1 := (hk.2 n (by omega)).trans (upd_same _ _ _)
    refine HCalls.walk Try.func62 rfl rfl Try.ntmps62 Try.results62 (by simp) ?_; simp (maxSteps := 400000) (dsimp := false) only [hp, hb1, axs, AThen, ABlock, dstsOk, AStep, callsF, AWant, aop, AS.ev, AS.put, upd, AS.bound, abin, aint, aload, astore, cellsAt, AV.cells, alen, elems, AV.int?, FPost, aresL, ares1, pack, afill, splice, Value.oneCell', Nat.reduceLT, Nat.reduceLeDiff, Nat.reduceEqDiff, Nat.reduceAdd, Nat.reduceMul, Nat.reduceSub, Nat.reduceBEq, Int.reduceLE, Int.reduceLT, Int.reduceToNat, Int.reduceNeg, Int.reduceEq, axt, ftK, ft3, pickP, AScope, AAll, pickQ, ftQ, inHeap, Nd.cells, getF, tys]
    exact ⟨_, rfl, rfl, rfl⟩
  refine HCalls.walk Try.func29 rfl rfl Try.ntmps29 Try.results29 (by simp) ?_; simp (maxSteps := 400000) (dsimp := false) only [axs, AThen, ABlock, dstsOk, AStep, callsF, AWant, aop, AS.ev, AS.put, upd, AS.bound, abin, aint, aload, astore, cellsAt, AV.cells, alen, elems, AV.int?, FPost, aresL, ares1, pack, afill, splice, Value.oneCell', Nat.reduceLT, Nat.reduceLeDiff, Nat.reduceEqDiff, Nat.reduceAdd, Nat.reduceMul, Nat.reduceSub, Nat.reduceBEq, Int.reduceLE, Int.reduceLT, Int.reduceToNat, Int.reduceNeg, Int.reduceEq, axt, ftK, ft3, pickP, AScope, AAll, pickQ, ftQ, inHeap, Nd.cells, getF, tys]
  refine ACallK.heap _ rfl (cStWith (h.keeps kb) o hk hg) ?_
  rintro y H2 n2 ⟨rfl, to⟩
  simp (maxSteps := 400000) (dsimp := false) only [axs, AThen, ABlock, dstsOk, AStep, callsF, AWant, aop, AS.ev, AS.put, upd, AS.bound, abin, aint, aload, astore, cellsAt, AV.cells, alen, elems, AV.int?, FPost, aresL, ares1, pack, afill, splice, Value.oneCell', Nat.reduceLT, Nat.reduceLeDiff, Nat.reduceEqDiff, Nat.reduceAdd, Nat.reduceMul, Nat.reduceSub, Nat.reduceBEq, Int.reduceLE, Int.reduceLT, Int.reduceToNat, Int.reduceNeg, Int.reduceEq, axt, ftK, ft3, pickP, AScope, AAll, pickQ, ftQ, inHeap, Nd.cells, getF, tys]
  exact ⟨_, rfl, rfl, StTo.after kb to⟩
theorem cStSetFlag (h : StL H n S L r a s ta ts fv x) (o : SOk x) {k : Int} (hk : Key k) (v : Int) :
    HCalls Try.prog 30 [.ptr S 4 0 0, .sc (.int .u64 k), .sc (.int .i64 v)] H n fun y H' n' => y = .sc (.bool (isIn x k)) ∧ StTo H n S L r a s ta ts fv H' n' (setS x k (gFlag v)) := by
  have kb := (Keeps.refl H n).upd (x := some (.obj 3 1 [[.sc (.int .i64 v)]] false))
  have hg : Turns (upd H n (some (.obj 3 1 [[.sc (.int .i64 v)]] false))) (n + 1) 63 [.ptr n 1 0 0] (gFlag v) := by
    intro x H1 n1 p hk h1 h2 hp
    have hb1 := (hk.2 n (by omega)).trans (upd_same _ _ _)
    refine HCalls.walk Try.func63 rfl rfl Try.ntmps63 Try.results63 (by simp) ?_; simp (maxSteps := 400000) (dsimp := false) only [hp, hb1, axs, AThen, ABlock, dstsOk, AStep, callsF, AWant, aop, AS.ev, AS.put, upd, AS.bound, abin, aint, aload, astore, cellsAt, AV.cells, alen, elems, AV.int?, FPost, aresL, ares1, pack, afill, splice, Value.oneCell', Nat.reduceLT, Nat.reduceLeDiff, Nat.reduceEqDiff, Nat.reduceAdd, Nat.reduceMul, Nat.reduceSub, Nat.reduceBEq, Int.reduceLE, Int.reduceLT, Int.reduceToNat, Int.reduceNeg, Int.reduceEq, axt, ftK, ft3, pickP, AScope, AAll, pickQ, ftQ, inHeap, Nd.cells, getF, tys]
    exact ⟨_, rfl, rfl, rfl⟩
  refine HCalls.walk Try.func30 rfl rfl Try.ntmps30 Try.results30 (by simp) ?_; simp (maxSteps := 400000) (dsimp := false) only [axs, AThen, ABlock, dstsOk, AStep, callsF, AWant, aop, AS.ev, AS.put, upd, AS.bound, abin, aint, aload, astore, cellsAt, AV.cells, alen, elems, AV.int?, FPost, aresL, ares1, pack, afill, splice, Value.oneCell', Nat.reduceLT, Nat.reduceLeDiff, Nat.reduceEqDiff, Nat.reduceAdd, Nat.reduceMul, Nat.reduceSub, Nat.reduceBEq, Int.reduceLE, Int.reduceLT, Int.reduceToNat, Int.reduceNeg, Int.reduceEq, axt, ftK, ft3, pickP, AScope, AAll, pickQ, ftQ, inHeap, Nd.cells, getF, tys]
  refine ACallK.heap _ rfl (cStWith (h.keeps kb) o hk hg) ?_
  rintro y H2 n2 ⟨rfl, to⟩
  simp (maxSteps := 400000) (dsimp := false) only [axs, AThen, ABlock, dstsOk, AStep, callsF, AWant, aop, AS.ev, AS.put, upd, AS.bound, abin, aint, aload, astore, cellsAt, AV.cells, alen, elems, AV.int?, FPost, aresL, ares1, pack, afill, splice, Value.oneCell', Nat.reduceLT, Nat.reduceLeDiff, Nat.reduceEqDiff, Nat.reduceAdd, Nat.reduceMul, Nat.reduceSub, Nat.reduceBEq, Int.reduceLE, Int.reduceLT, Int.reduceToNat, Int.reduceNeg, Int.reduceEq, axt, ftK, ft3, pickP, AScope, AAll, pickQ, ftQ, inHeap, Nd.cells, getF, tys]
  exact ⟨_, rfl, rfl, StTo.after kb to⟩
end
end Go.Al
end
section
set_option linter.unusedVariables false
set_option linter.unusedSimpArgs false
set_option maxRecDepth 20000
set_option maxHeartbeats 3200000
-- axs, AThen, ABlock, dstsOk, AStep, callsF, AWant, aop, AS.ev, AS.put, upd, AS.bound, abin, aint, aload, astore, cellsAt, AV.cells, alen, elems, AV.int?, FPost, aresL, ares1, pack, afill, splice, Value.oneCell', Nat.reduceLT, Nat.reduceLeDiff, Nat.reduceEqDiff, Nat.reduceAdd, Nat.reduceMul, Nat.reduceSub, Nat.reduceBEq, Int.reduceLE, Int.reduceLT, Int.reduceToNat, Int.reduceNeg, Int.reduceEq, axt, ftK, ft3, pickP, AScope, AAll, pickQ, ftQ, inHeap, Nd.cells, getF, tys: Nd.cells, getF
namespace Go.Al
open Go.Proofs
def movOk (x : SS) (q k : Int) : Bool := isIn x k && mvOk x.R x.rows q (nodeI x.T k)
def movS (x : SS) (q k : Int) : SS := if nodeI x.T k = 0 then x else ⟨(mvS x.R x.rows q (nodeI x.T k)).1, (mvS x.R x.rows q (nodeI x.T k)).2, mvL x.R x.rows x.ls q (nodeI x.T k), x.T⟩
def remS (x : SS) (k : Int) : SS := if nodeI x.T k = 0 then x else ⟨(raFree (offS x.R x.rows (nodeI x.T k)).1 (nodeI x.T k)).1, (offS x.R x.rows (nodeI x.T k)).2, offL x.R x.rows x.ls (nodeI x.T k), (hDel x.T k).1⟩
def psOk (x : SS) (q k : Int) : Bool := decide (0 ≤ q ∧ q < x.rows.length) && decide (nodeI x.T k = 0)
def psfS (x : SS) (q k : Int) : SS := if psOk x q k then ⟨(layS (pshR x.R k) x.rows q 0 (raAlloc x.R).2 (frontR x.rows q)).1, (layS (pshR x.R k) x.rows q 0 (raAlloc x.R).2 (frontR x.rows q)).2, pushL x.ls q (raAlloc x.R).2 true, hPut x.T k (raAlloc x.R).2⟩ else x
def psbS (x : SS) (q k : Int) : SS := if psOk x q k then ⟨(layS (pshR x.R k) x.rows q (backR x.rows q) (raAlloc x.R).2 0).1, (layS (pshR x.R k) x.rows q (backR x.rows q) (raAlloc x.R).2 0).2, pushL x.ls q (raAlloc x.R).2 false, hPut x.T k (raAlloc x.R).2⟩ else x
section
variable {H H' H1 H2 : AH} {n n' n1 n2 S L r a s ta ts s1 ts1 : Nat} {fv fv1 : AV} {x x' : SS}
theorem mvS_len (R : RA) (rows : List Rw) (t i : Int) : (mvS R rows t i).2.length = rows.length := by
  unfold mvS
  split
  · split
    · rw [layS_len, offS_len]
    · rfl
  · rfl
theorem SOk.live (o : SOk x) {k : Int} (h0 : nodeI x.T k ≠ 0) : raIs x.R (nodeI x.T k) = true ∧ (raAt x.R (nodeI x.T k)).key = k ∧ (sl x.T (hF x.T k)).full = true := by
  rcases o.i.node k with ⟨h1, h2, _, h4⟩ | ⟨h1, _⟩
  · exact ⟨h1, h2, h4⟩
  · exact absurd h1 h0
theorem SOk.fine2 (o : SOk x) {i j : Int} (hi : I32ok i) : Fine (offS x.R x.rows j).1 (offS x.R x.rows j).2 i := by
  obtain ⟨l1, e1, h1⟩ := o.i.inv.some_off j
  exact h1.fine (by rw [e1]; have := o.q; omega) (by rw [(Same.offS o.i.inv.ok x.rows j).ever]; have := o.ev; omega) i hi
theorem cStMove (h : StL H n S L r a s ta ts fv x) (o : SOk x) (q : Int) {k : Int} (hk : Key k) :
    HCalls Try.prog 27 [.ptr S 4 0 0, .sc (.int .i64 q), .sc (.int .u64 k)] H n fun y H' n' => y = .sc (.bool (movOk x q k)) ∧ StTo H n S L r a s ta ts fv H' n' (movS x q k) := by
  have hi := o.node32 k
  refine HCalls.walk Try.func27 rfl rfl Try.ntmps27 Try.results27 (by simp) ?_; simp (maxSteps := 400000) (dsimp := false) only [axs, AThen, ABlock, dstsOk, AStep, callsF, AWant, aop, AS.ev, AS.put, upd, AS.bound, abin, aint, aload, astore, cellsAt, AV.cells, alen, elems, AV.int?, FPost, aresL, ares1, pack, afill, splice, Value.oneCell', Nat.reduceLT, Nat.reduceLeDiff, Nat.reduceEqDiff, Nat.reduceAdd, Nat.reduceMul, Nat.reduceSub, Nat.reduceBEq, Int.reduceLE, Int.reduceLT, Int.reduceToNat, Int.reduceNeg, Int.reduceEq, axt, ftK, ft3, pickP, AScope, AAll, pickQ, ftQ, inHeap, Nd.cells, getF, tys]
  refine ACallK.heap _ rfl (cStNode h o hk) ?_
  rintro v H2 n2 ⟨rfl, kp⟩
  have kp : Keeps H n H2 n2 := kp
  have h2 := h.keeps kp
  have hS := h2.hS
  by_cases h0 : nodeI x.T k = 0
  · have e1 : movOk x q k = false := by unfold movOk isIn; rw [h0]; rfl
    have e2 : movS x q k = x := if_pos h0
    rw [e1, e2]
    simp (maxSteps := 400000) (dsimp := false) only [h0, axs, AThen, ABlock, dstsOk, AStep, callsF, AWant, aop, AS.ev, AS.put, upd, AS.bound, abin, aint, aload, astore, cellsAt, AV.cells, alen, elems, AV.int?, FPost, aresL, ares1, pack, afill, splice, Value.oneCell', Nat.reduceLT, Nat.reduceLeDiff, Nat.reduceEqDiff, Nat.reduceAdd, Nat.reduceMul, Nat.reduceSub, Nat.reduceBEq, Int.reduceLE, Int.reduceLT, Int.reduceToNat, Int.reduceNeg, Int.reduceEq, axt, ftK, ft3, pickP, AScope, AAll, pickQ, ftQ, inHeap, Nd.cells, getF, tys]
    exact ⟨_, rfl, rfl, StTo.after kp (StTo.same h2)⟩
  · have e1 : movOk x q k = mvOk x.R x.rows q (nodeI x.T k) := by unfold movOk isIn; rw [decide_eq_false h0]; rfl
    have e2 : movS x q k = ⟨(mvS x.R x.rows q (nodeI x.T k)).1, (mvS x.R x.rows q (nodeI x.T k)).2, mvL x.R x.rows x.ls q (nodeI x.T k), x.T⟩ := if_neg h0
    rw [e1, e2]
    simp (maxSteps := 400000) (dsimp := false) only [h0, hS, axs, AThen, ABlock, dstsOk, AStep, callsF, AWant, aop, AS.ev, AS.put, upd, AS.bound, abin, aint, aload, astore, cellsAt, AV.cells, alen, elems, AV.int?, FPost, aresL, ares1, pack, afill, splice, Value.oneCell', Nat.reduceLT, Nat.reduceLeDiff, Nat.reduceEqDiff, Nat.reduceAdd, Nat.reduceMul, Nat.reduceSub, Nat.reduceBEq, Int.reduceLE, Int.reduceLT, Int.reduceToNat, Int.reduceNeg, Int.reduceEq, axt, ftK, ft3, pickP, AScope, AAll, pickQ, ftQ, inHeap, Nd.cells, getF, tys]
    refine ACallK.heap _ rfl (cLsMove h2.l q (nodeI x.T k) (o.fine hi) (o.fine2 hi)) ?_
    rintro v H3 n3 ⟨rfl, to⟩
    simp (maxSteps := 400000) (dsimp := false) only [axs, AThen, ABlock, dstsOk, AStep, callsF, AWant, aop, AS.ev, AS.put, upd, AS.bound, abin, aint, aload, astore, cellsAt, AV.cells, alen, elems, AV.int?, FPost, aresL, ares1, pack, afill, splice, Value.oneCell', Nat.reduceLT, Nat.reduceLeDiff, Nat.reduceEqDiff, Nat.reduceAdd, Nat.reduceMul, Nat.reduceSub, Nat.reduceBEq, Int.reduceLE, Int.reduceLT, Int.reduceToNat, Int.reduceNeg, Int.reduceEq, axt, ftK, ft3, pickP, AScope, AAll, pickQ, ftQ, inHeap, Nd.cells, getF, tys]
    exact ⟨_, rfl, rfl, StTo.after kp (h2.lists to (mvS_len _ _ _ _) _)⟩
theorem cStRemove (h : StL H n S L r a s ta ts fv x) (o : SOk x) {k : Int} (hk : Key k) :
    HCalls Try.prog 28 [.ptr S 4 0 0, .sc (.int .u64 k)] H n fun y H' n' => y = .sc (.bool (isIn x k)) ∧ StTo H n S L r a s ta ts fv H' n' (remS x k) := by
  have hi := o.node32 k
  have hln := o.ln
  refine HCalls.walk Try.func28 rfl rfl Try.ntmps28 Try.results28 (by simp) ?_; simp (maxSteps := 400000) (dsimp := false) only [axs, AThen, ABlock, dstsOk, AStep, callsF, AWant, aop, AS.ev, AS.put, upd, AS.bound, abin, aint, aload, astore, cellsAt, AV.cells, alen, elems, AV.int?, FPost, aresL, ares1, pack, afill, splice, Value.oneCell', Nat.reduceLT, Nat.reduceLeDiff, Nat.reduceEqDiff, Nat.reduceAdd, Nat.reduceMul, Nat.reduceSub, Nat.reduceBEq, Int.reduceLE, Int.reduceLT, Int.reduceToNat, Int.reduceNeg, Int.reduceEq, axt, ftK, ft3, pickP, AScope, AAll, pickQ, ftQ, inHeap, Nd.cells, getF, tys]
  refine ACallK.heap _ rfl (cStNode h o hk) ?_
  rintro v H2 n2 ⟨rfl, kp⟩
  have kp : Keeps H n H2 n2 := kp
  have h2 := h.keeps kp
  have hS := h2.hS
  by_cases h0 : nodeI x.T k = 0
  · have e1 : isIn x k = false := by unfold isIn; rw [h0]; rfl
    have e2 : remS x k = x := if_pos h0
    rw [e1, e2]
    simp (maxSteps := 400000) (dsimp := false) only [h0, axs, AThen, ABlock, dstsOk, AStep, callsF, AWant, aop, AS.ev, AS.put, upd, AS.bound, abin, aint, aload, astore, cellsAt, AV.cells, alen, elems, AV.int?, FPost, aresL, ares1, pack, afill, splice, Value.oneCell', Nat.reduceLT, Nat.reduceLeDiff, Nat.reduceEqDiff, Nat.reduceAdd, Nat.reduceMul, Nat.reduceSub, Nat.reduceBEq, Int.reduceLE, Int.reduceLT, Int.reduceToNat, Int.reduceNeg, Int.reduceEq, axt, ftK, ft3, pickP, AScope, AAll, pickQ, ftQ, inHeap, Nd.cells, getF, tys]
    exact ⟨_, rfl, rfl, StTo.after kp (StTo.same h2)⟩
  · have e1 : isIn x k = true := by unfold isIn; rw [decide_eq_false h0]; rfl
    have e2 : remS x k = ⟨(raFree (offS x.R x.rows (nodeI x.T k)).1 (nodeI x.T k)).1, (offS x.R x.rows (nodeI x.T k)).2, offL x.R x.rows x.ls (nodeI x.T k), (hDel x.T k).1⟩ := if_neg h0
    obtain ⟨_, _, hfull⟩ := o.live h0
    have hdel : (hDel x.T k).2 = true := by unfold hDel; rw [if_pos hfull]
    have ok2 : RaOk (offS x.R x.rows (nodeI x.T k)).1 := (o.i.inv.offL (nodeI x.T k)).1.ok
    have sm := Same.offS o.i.inv.ok x.rows (nodeI x.T k)
    rw [e1, e2]
    simp (maxSteps := 400000) (dsimp := false) only [h0, hS, axs, AThen, ABlock, dstsOk, AStep, callsF, AWant, aop, AS.ev, AS.put, upd, AS.bound, abin, aint, aload, astore, cellsAt, AV.cells, alen, elems, AV.int?, FPost, aresL, ares1, pack, afill, splice, Value.oneCell', Nat.reduceLT, Nat.reduceLeDiff, Nat.reduceEqDiff, Nat.reduceAdd, Nat.reduceMul, Nat.reduceSub, Nat.reduceBEq, Int.reduceLE, Int.reduceLT, Int.reduceToNat, Int.reduceNeg, Int.reduceEq, axt, ftK, ft3, pickP, AScope, AAll, pickQ, ftQ, inHeap, Nd.cells, getF, tys]
    refine ACallK.heap _ rfl (cLsRemove h2.l (nodeI x.T k) (o.fine hi)) ?_
    rintro v H3 n3 ⟨rfl, to⟩
    obtain ⟨le3, kp3, s3, ts3, fv3, h3, own3⟩ := h2.lists to (offS_len _ _ _) (offL x.R x.rows x.ls (nodeI x.T k))
    have le3 : n2 ≤ n3 := le3
    have hS3 := h3.hS
    simp (maxSteps := 400000) (dsimp := false) only [h0, hS3, axs, AThen, ABlock, dstsOk, AStep, callsF, AWant, aop, AS.ev, AS.put, upd, AS.bound, abin, aint, aload, astore, cellsAt, AV.cells, alen, elems, AV.int?, FPost, aresL, ares1, pack, afill, splice, Value.oneCell', Nat.reduceLT, Nat.reduceLeDiff, Nat.reduceEqDiff, Nat.reduceAdd, Nat.reduceMul, Nat.reduceSub, Nat.reduceBEq, Int.reduceLE, Int.reduceLT, Int.reduceToNat, Int.reduceNeg, Int.reduceEq, axt, ftK, ft3, pickP, AScope, AAll, pickQ, ftQ, inHeap, Nd.cells, getF, tys]
    refine ACallK.heap _ rfl (cRFree h3.l.ar ok2 (nodeI x.T k) hi (by show (offS x.R x.rows (nodeI x.T k)).1.len ≤ _; rw [sm.len]; omega)) ?_
    rintro v H4 n4 ⟨rfl, to4⟩
    obtain ⟨le4, kp4, s4, ts4, fv4, h4, own4⟩ := h3.nodes to4
    have le4 : n3 ≤ n4 := le4
    have hS4 := h4.hS
    simp (maxSteps := 400000) (dsimp := false) only [h0, hS4, axs, AThen, ABlock, dstsOk, AStep, callsF, AWant, aop, AS.ev, AS.put, upd, AS.bound, abin, aint, aload, astore, cellsAt, AV.cells, alen, elems, AV.int?, FPost, aresL, ares1, pack, afill, splice, Value.oneCell', Nat.reduceLT, Nat.reduceLeDiff, Nat.reduceEqDiff, Nat.reduceAdd, Nat.reduceMul, Nat.reduceSub, Nat.reduceBEq, Int.reduceLE, Int.reduceLT, Int.reduceToNat, Int.reduceNeg, Int.reduceEq, axt, ftK, ft3, pickP, AScope, AAll, pickQ, ftQ, inHeap, Nd.cells, getF, tys]
    refine ACallK.heap _ rfl (cHtDelete h4.t o.i.ok hk) ?_
    rintro v H5 n5 ⟨rfl, to5⟩
    simp (maxSteps := 400000) (dsimp := false) only [hdel, axs, AThen, ABlock, dstsOk, AStep, callsF, AWant, aop, AS.ev, AS.put, upd, AS.bound, abin, aint, aload, astore, cellsAt, AV.cells, alen, elems, AV.int?, FPost, aresL, ares1, pack, afill, splice, Value.oneCell', Nat.reduceLT, Nat.reduceLeDiff, Nat.reduceEqDiff, Nat.reduceAdd, Nat.reduceMul, Nat.reduceSub, Nat.reduceBEq, Int.reduceLE, Int.reduceLT, Int.reduceToNat, Int.reduceNeg, Int.reduceEq, axt, ftK, ft3, pickP, AScope, AAll, pickQ, ftQ, inHeap, Nd.cells, getF, tys]
    exact ⟨_, rfl, rfl, StTo.after kp (StTo.then le3 kp3 own3 (StTo.then le4 kp4 own4 (h4.table to5)))⟩
theorem pshR_ever (R : RA) (k : Int) : (pshR R k).ever ≤ R.ever + 1 ∧ (pshR R k).len ≤ max R.len (2 * R.len) := by
  unfold pshR
  have hs : ∀ (A : RA) (i : Int) (y : Nd), (raSet A i y).1.ever = A.ever ∧ (raSet A i y).1.len = A.len := fun A i y => by unfold raSet; split <;> exact ⟨rfl, rfl⟩
  rw [(hs _ _ _).1, (hs _ _ _).2]
  unfold raAlloc
  split
  · rw [(hs _ _ _).1, (hs _ _ _).2]
    exact ⟨by show R.ever ≤ _; omega, by show R.len ≤ _; omega⟩
  · refine ⟨Int.le_refl _, ?_⟩
    show (if R.ever + 1 ≥ R.len then 2 * R.len else R.len) ≤ _
    split <;> omega
theorem cStPushFront (h : StL H n S L r a s ta ts fv x) (o : SOk x) (q : Int) {k : Int} (hk : Key k) :
    HCalls Try.prog 54 [.ptr S 4 0 0, .sc (.int .i64 q), .sc (.int .u64 k), .fn 55 []] H n fun y H' n' => y = .sc (.bool (psOk x q k)) ∧ StTo H n S L r a s ta ts fv H' n' (psfS x q k) := by
  have hS := h.hS
  have hln := o.ln
  by_cases a0 : q < 0
  · have e1 : psOk x q k = false := by unfold psOk; rw [decide_eq_false (by omega)]; rfl
    have e2 : psfS x q k = x := if_neg (by rw [e1]; simp)
    rw [e1, e2]
    refine HCalls.walk Try.func54 rfl rfl Try.ntmps54 Try.results54 (by simp) ?_; simp (maxSteps := 400000) (dsimp := false) only [a0, axs, AThen, ABlock, dstsOk, AStep, callsF, AWant, aop, AS.ev, AS.put, upd, AS.bound, abin, aint, aload, astore, cellsAt, AV.cells, alen, elems, AV.int?, FPost, aresL, ares1, pack, afill, splice, Value.oneCell', Nat.reduceLT, Nat.reduceLeDiff, Nat.reduceEqDiff, Nat.reduceAdd, Nat.reduceMul, Nat.reduceSub, Nat.reduceBEq, Int.reduceLE, Int.reduceLT, Int.reduceToNat, Int.reduceNeg, Int.reduceEq, axt, ftK, ft3, pickP, AScope, AAll, pickQ, ftQ, inHeap, Nd.cells, getF, tys]
    exact ⟨_, rfl, rfl, StTo.same h⟩
  · by_cases a1 : q ≥ x.rows.length
    · have e1 : psOk x q k = false := by unfold psOk; rw [decide_eq_false (by omega)]; rfl
      have e2 : psfS x q k = x := if_neg (by rw [e1]; simp)
      rw [e1, e2]
      refine HCalls.walk Try.func54 rfl rfl Try.ntmps54 Try.results54 (by simp) ?_; simp (maxSteps := 400000) (dsimp := false) only [a0, a1, hS, axs, AThen, ABlock, dstsOk, AStep, callsF, AWant, aop, AS.ev, AS.put, upd, AS.bound, abin, aint, aload, astore, cellsAt, AV.cells, alen, elems, AV.int?, FPost, aresL, ares1, pack, afill, splice, Value.oneCell', Nat.reduceLT, Nat.reduceLeDiff, Nat.reduceEqDiff, Nat.reduceAdd, Nat.reduceMul, Nat.reduceSub, Nat.reduceBEq, Int.reduceLE, Int.reduceLT, Int.reduceToNat, Int.reduceNeg, Int.reduceEq, axt, ftK, ft3, pickP, AScope, AAll, pickQ, ftQ, inHeap, Nd.cells, getF, tys]
      exact ⟨_, rfl, rfl, StTo.same h⟩
    · have hq : 0 ≤ q ∧ q < x.rows.length := by omega
      by_cases h0 : nodeI x.T k = 0
      · have e1 : psOk x q k = true := by unfold psOk; rw [decide_eq_true hq, decide_eq_true h0]; rfl
        have e2 : psfS x q k = ⟨(layS (pshR x.R k) x.rows q 0 (raAlloc x.R).2 (frontR x.rows q)).1, (layS (pshR x.R k) x.rows q 0 (raAlloc x.R).2 (frontR x.rows q)).2, pushL x.ls q (raAlloc x.R).2 true, hPut x.T k (raAlloc x.R).2⟩ := if_pos e1
        rw [e1, e2]
        have ok := o.i.inv.ok
        obtain ⟨al1, al2, _⟩ := raAlloc_all ok
        have hev := o.ev
        have hi : I32ok (raAlloc x.R).2 := ⟨by omega, by omega⟩
        have okA := (arAlloc_of ok).2.1
        have hlo := psh_ok o.i k hq
        have hfi : Fine (pshR x.R k) x.rows (raAlloc x.R).2 := (o.i.inv.psh k).fine (by have := o.q; omega) (by have := (pshR_ever x.R k).1; omega) _ hi
        refine HCalls.walk Try.func54 rfl rfl Try.ntmps54 Try.results54 (by simp) ?_; simp (maxSteps := 400000) (dsimp := false) only [a0, a1, hS, axs, AThen, ABlock, dstsOk, AStep, callsF, AWant, aop, AS.ev, AS.put, upd, AS.bound, abin, aint, aload, astore, cellsAt, AV.cells, alen, elems, AV.int?, FPost, aresL, ares1, pack, afill, splice, Value.oneCell', Nat.reduceLT, Nat.reduceLeDiff, Nat.reduceEqDiff, Nat.reduceAdd, Nat.reduceMul, Nat.reduceSub, Nat.reduceBEq, Int.reduceLE, Int.reduceLT, Int.reduceToNat, Int.reduceNeg, Int.reduceEq, axt, ftK, ft3, pickP, AScope, AAll, pickQ, ftQ, inHeap, Nd.cells, getF, tys]
        refine ACallK.heap _ rfl (cStNode h o hk) ?_
        rintro v H2 n2 ⟨rfl, kp⟩
        have kp : Keeps H n H2 n2 := kp
        have h2 := h.keeps kp
        have hS2 := h2.hS
        simp (maxSteps := 400000) (dsimp := false) only [h0, hS2, axs, AThen, ABlock, dstsOk, AStep, callsF, AWant, aop, AS.ev, AS.put, upd, AS.bound, abin, aint, aload, astore, cellsAt, AV.cells, alen, elems, AV.int?, FPost, aresL, ares1, pack, afill, splice, Value.oneCell', Nat.reduceLT, Nat.reduceLeDiff, Nat.reduceEqDiff, Nat.reduceAdd, Nat.reduceMul, Nat.reduceSub, Nat.reduceBEq, Int.reduceLE, Int.reduceLT, Int.reduceToNat, Int.reduceNeg, Int.reduceEq, axt, ftK, ft3, pickP, AScope, AAll, pickQ, ftQ, inHeap, Nd.cells, getF, tys]
        refine ACallK.heap _ rfl (cRAlloc h2.l.ar ok (by omega)) ?_
        rintro v H3 n3 ⟨rfl, to3⟩
        obtain ⟨le3, kp3, s3, ts3, fv3, h3, own3⟩ := h2.nodes to3
        have le3 : n2 ≤ n3 := le3
        have hS3 := h3.hS
        have cs := (cRSet h3.l.ar okA (raAlloc x.R).2 hi ⟨k, 0, 0, 0, 0, 0⟩).mono (R' := fun y H' n' => y = .sc (.bool (raSet (raAlloc x.R).1 (raAlloc x.R).2 ⟨k, 0, 0, 0, 0, 0⟩).2) ∧ ArTo H3 n3 a s3 fv3 H' n' (arnOf (pshR x.R k))) (fun y H' n' ⟨q1, q2, q3⟩ => ⟨q1, by rw [q2, q3]; exact ArTo.setR h3.l.ar okA _ _⟩)
        simp (maxSteps := 400000) (dsimp := false) only [hS3, axs, AThen, ABlock, dstsOk, AStep, callsF, AWant, aop, AS.ev, AS.put, upd, AS.bound, abin, aint, aload, astore, cellsAt, AV.cells, alen, elems, AV.int?, FPost, aresL, ares1, pack, afill, splice, Value.oneCell', Nat.reduceLT, Nat.reduceLeDiff, Nat.reduceEqDiff, Nat.reduceAdd, Nat.reduceMul, Nat.reduceSub, Nat.reduceBEq, Int.reduceLE, Int.reduceLT, Int.reduceToNat, Int.reduceNeg, Int.reduceEq, axt, ftK, ft3, pickP, AScope, AAll, pickQ, ftQ, inHeap, Nd.cells, getF, tys]
        refine ACallK.heap _ rfl cs ?_
        rintro v H4 n4 ⟨rfl, to4⟩
        obtain ⟨le4, kp4, s4, ts4, fv4, h4, own4⟩ := h3.nodes to4
        have le4 : n3 ≤ n4 := le4
        have hS4 := h4.hS
        simp (maxSteps := 400000) (dsimp := false) only [hS4, axs, AThen, ABlock, dstsOk, AStep, callsF, AWant, aop, AS.ev, AS.put, upd, AS.bound, abin, aint, aload, astore, cellsAt, AV.cells, alen, elems, AV.int?, FPost, aresL, ares1, pack, afill, splice, Value.oneCell', Nat.reduceLT, Nat.reduceLeDiff, Nat.reduceEqDiff, Nat.reduceAdd, Nat.reduceMul, Nat.reduceSub, Nat.reduceBEq, Int.reduceLE, Int.reduceLT, Int.reduceToNat, Int.reduceNeg, Int.reduceEq, axt, ftK, ft3, pickP, AScope, AAll, pickQ, ftQ, inHeap, Nd.cells, getF, tys]
        refine ACallK.heap _ rfl (cHtPut h4.t o.i.ok o.tl hk (raAlloc x.R).2) ?_
        rintro v H5 n5 ⟨rfl, to5⟩
        obtain ⟨le5, kp5, s5, ts5, fv5, h5, own5⟩ := h4.table to5
        have le5 : n4 ≤ n5 := le5
        have hS5 := h5.hS
        simp (maxSteps := 400000) (dsimp := false) only [hS5, axs, AThen, ABlock, dstsOk, AStep, callsF, AWant, aop, AS.ev, AS.put, upd, AS.bound, abin, aint, aload, astore, cellsAt, AV.cells, alen, elems, AV.int?, FPost, aresL, ares1, pack, afill, splice, Value.oneCell', Nat.reduceLT, Nat.reduceLeDiff, Nat.reduceEqDiff, Nat.reduceAdd, Nat.reduceMul, Nat.reduceSub, Nat.reduceBEq, Int.reduceLE, Int.reduceLT, Int.reduceToNat, Int.reduceNeg, Int.reduceEq, axt, ftK, ft3, pickP, AScope, AAll, pickQ, ftQ, inHeap, Nd.cells, getF, tys]
        refine ACallK.heap _ rfl (cLsPushFront h5.l q (raAlloc x.R).2 hfi) ?_
        rintro v H6 n6 ⟨rfl, to6⟩
        simp (maxSteps := 400000) (dsimp := false) only [hlo, axs, AThen, ABlock, dstsOk, AStep, callsF, AWant, aop, AS.ev, AS.put, upd, AS.bound, abin, aint, aload, astore, cellsAt, AV.cells, alen, elems, AV.int?, FPost, aresL, ares1, pack, afill, splice, Value.oneCell', Nat.reduceLT, Nat.reduceLeDiff, Nat.reduceEqDiff, Nat.reduceAdd, Nat.reduceMul, Nat.reduceSub, Nat.reduceBEq, Int.reduceLE, Int.reduceLT, Int.reduceToNat, Int.reduceNeg, Int.reduceEq, axt, ftK, ft3, pickP, AScope, AAll, pickQ, ftQ, inHeap, Nd.cells, getF, tys]
        exact ⟨_, rfl, rfl, StTo.after kp (StTo.then le3 kp3 own3 (StTo.then le4 kp4 own4 (StTo.then le5 kp5 own5 (h5.lists to6 (layS_len _ _ _ _ _ _) _))))⟩
      · have e1 : psOk x q k = false := by unfold psOk; rw [decide_eq_false h0, Bool.and_false]
        have e2 : psfS x q k = x := if_neg (by rw [e1]; simp)
        rw [e1, e2]
        refine HCalls.walk Try.func54 rfl rfl Try.ntmps54 Try.results54 (by simp) ?_; simp (maxSteps := 400000) (dsimp := false) only [a0, a1, hS, axs, AThen, ABlock, dstsOk, AStep, callsF, AWant, aop, AS.ev, AS.put, upd, AS.bound, abin, aint, aload, astore, cellsAt, AV.cells, alen, elems, AV.int?, FPost, aresL, ares1, pack, afill, splice, Value.oneCell', Nat.reduceLT, Nat.reduceLeDiff, Nat.reduceEqDiff, Nat.reduceAdd, Nat.reduceMul, Nat.reduceSub, Nat.reduceBEq, Int.reduceLE, Int.reduceLT, Int.reduceToNat, Int.reduceNeg, Int.reduceEq, axt, ftK, ft3, pickP, AScope, AAll, pickQ, ftQ, inHeap, Nd.cells, getF, tys]
        refine ACallK.heap _ rfl (cStNode h o hk) ?_
        rintro v H2 n2 ⟨rfl, kp⟩
        have kp : Keeps H n H2 n2 := kp
        have h2 := h.keeps kp
        simp (maxSteps := 400000) (dsimp := false) only [h0, axs, AThen, ABlock, dstsOk, AStep, callsF, AWant, aop, AS.ev, AS.put, upd, AS.bound, abin, aint, aload, astore, cellsAt, AV.cells, alen, elems, AV.int?, FPost, aresL, ares1, pack, afill, splice, Value.oneCell', Nat.reduceLT, Nat.reduceLeDiff, Nat.reduceEqDiff, Nat.reduceAdd, Nat.reduceMul, Nat.reduceSub, Nat.reduceBEq, Int.reduceLE, Int.reduceLT, Int.reduceToNat, Int.reduceNeg, Int.reduceEq, axt, ftK, ft3, pickP, AScope, AAll, pickQ, ftQ, inHeap, Nd.cells, getF, tys]
        exact ⟨_, rfl, rfl, StTo.after kp (StTo.same h2)⟩
theorem cStPFront (h : StL H n S L r a s ta ts fv x) (o : SOk x) (q : Int) {k : Int} (hk : Key k) :
    HCalls Try.prog 25 [.ptr S 4 0 0, .sc (.int .i64 q), .sc (.int .u64 k)] H n fun y H' n' => y = .sc (.bool (psOk x q k)) ∧ StTo H n S L r a s ta ts fv H' n' (psfS x q k) := by
  refine HCalls.walk Try.func25 rfl rfl Try.ntmps25 Try.results25 (by simp) ?_; simp (maxSteps := 400000) (dsimp := false) only [axs, AThen, ABlock, dstsOk, AStep, callsF, AWant, aop, AS.ev, AS.put, upd, AS.bound, abin, aint, aload, astore, cellsAt, AV.cells, alen, elems, AV.int?, FPost, aresL, ares1, pack, afill, splice, Value.oneCell', Nat.reduceLT, Nat.reduceLeDiff, Nat.reduceEqDiff, Nat.reduceAdd, Nat.reduceMul, Nat.reduceSub, Nat.reduceBEq, Int.reduceLE, Int.reduceLT, Int.reduceToNat, Int.reduceNeg, Int.reduceEq, axt, ftK, ft3, pickP, AScope, AAll, pickQ, ftQ, inHeap, Nd.cells, getF, tys]
  refine ACallK.heap _ rfl (cStPushFront h o q hk) ?_
  rintro v H2 n2 ⟨rfl, to⟩
  simp (maxSteps := 400000) (dsimp := false) only [axs, AThen, ABlock, dstsOk, AStep, callsF, AWant, aop, AS.ev, AS.put, upd, AS.bound, abin, aint, aload, astore, cellsAt, AV.cells, alen, elems, AV.int?, FPost, aresL, ares1, pack, afill, splice, Value.oneCell', Nat.reduceLT, Nat.reduceLeDiff, Nat.reduceEqDiff, Nat.reduceAdd, Nat.reduceMul, Nat.reduceSub, Nat.reduceBEq, Int.reduceLE, Int.reduceLT, Int.reduceToNat, Int.reduceNeg, Int.reduceEq, axt, ftK, ft3, pickP, AScope, AAll, pickQ, ftQ, inHeap, Nd.cells, getF, tys]
  exact ⟨_, rfl, rfl, to⟩
theorem cStPushBack (h : StL H n S L r a s ta ts fv x) (o : SOk x) (q : Int) {k : Int} (hk : Key k) :
    HCalls Try.prog 54 [.ptr S 4 0 0, .sc (.int .i64 q), .sc (.int .u64 k), .fn 56 []] H n fun y H' n' => y = .sc (.bool (psOk x q k)) ∧ StTo H n S L r a s ta ts fv H' n' (psbS x q k) := by
  have hS := h.hS
  have hln := o.ln
  by_cases a0 : q < 0
  · have e1 : psOk x q k = false := by unfold psOk; rw [decide_eq_false (by omega)]; rfl
    have e2 : psbS x q k = x := if_neg (by rw [e1]; simp)
    rw [e1, e2]
    refine HCalls.walk Try.func54 rfl rfl Try.ntmps54 Try.results54 (by simp) ?_; simp (maxSteps := 400000) (dsimp := false) only [a0, axs, AThen, ABlock, dstsOk, AStep, callsF, AWant, aop, AS.ev, AS.put, upd, AS.bound, abin, aint, aload, astore, cellsAt, AV.cells, alen, elems, AV.int?, FPost, aresL, ares1, pack, afill, splice, Value.oneCell', Nat.reduceLT, Nat.reduceLeDiff, Nat.reduceEqDiff, Nat.reduceAdd, Nat.reduceMul, Nat.reduceSub, Nat.reduceBEq, Int.reduceLE, Int.reduceLT, Int.reduceToNat, Int.reduceNeg, Int.reduceEq, axt, ftK, ft3, pickP, AScope, AAll, pickQ, ftQ, inHeap, Nd.cells, getF, tys]
    exact ⟨_, rfl, rfl, StTo.same h⟩
  · by_cases a1 : q ≥ x.rows.length
    · have e1 : psOk x q k = false := by unfold psOk; rw [decide_eq_false (by omega)]; rfl
      have e2 : psbS x q k = x := if_neg (by rw [e1]; simp)
      rw [e1, e2]
      refine HCalls.walk Try.func54 rfl rfl Try.ntmps54 Try.results54 (by simp) ?_; simp (maxSteps := 400000) (dsimp := false) only [a0, a1, hS, axs, AThen, ABlock, dstsOk, AStep, callsF, AWant, aop, AS.ev, AS.put, upd, AS.bound, abin, aint, aload, astore, cellsAt, AV.cells, alen, elems, AV.int?, FPost, aresL, ares1, pack, afill, splice, Value.oneCell', Nat.reduceLT, Nat.reduceLeDiff, Nat.reduceEqDiff, Nat.reduceAdd, Nat.reduceMul, Nat.reduceSub, Nat.reduceBEq, Int.reduceLE, Int.reduceLT, Int.reduceToNat, Int.reduceNeg, Int.reduceEq, axt, ftK, ft3, pickP, AScope, AAll, pickQ, ftQ, inHeap, Nd.cells, getF, tys]
      exact ⟨_, rfl, rfl, StTo.same h⟩
    · have hq : 0 ≤ q ∧ q < x.rows.length := by omega
      by_cases h0 : nodeI x.T k = 0
      · have e1 : psOk x q k = true := by unfold psOk; rw [decide_eq_true hq, decide_eq_true h0]; rfl
        have e2 : psbS x q k = ⟨(layS (pshR x.R k) x.rows q (backR x.rows q) (raAlloc x.R).2 0).1, (layS (pshR x.R k) x.rows q (backR x.rows q) (raAlloc x.R).2 0).2, pushL x.ls q (raAlloc x.R).2 false, hPut x.T k (raAlloc x.R).2⟩ := if_pos e1
        rw [e1, e2]
        have ok := o.i.inv.ok
        obtain ⟨al1, al2, _⟩ := raAlloc_all ok
        have hev := o.ev
        have hi : I32ok (raAlloc x.R).2 := ⟨by omega, by omega⟩
        have okA := (arAlloc_of ok).2.1
        have hlo := psh_ok o.i k hq
        have hfi : Fine (pshR x.R k) x.rows (raAlloc x.R).2 := (o.i.inv.psh k).fine (by have := o.q; omega) (by have := (pshR_ever x.R k).1; omega) _ hi
        refine HCalls.walk Try.func54 rfl rfl Try.ntmps54 Try.results54 (by simp) ?_; simp (maxSteps := 400000) (dsimp := false) only [a0, a1, hS, axs, AThen, ABlock, dstsOk, AStep, callsF, AWant, aop, AS.ev, AS.put, upd, AS.bound, abin, aint, aload, astore, cellsAt, AV.cells, alen, elems, AV.int?, FPost, aresL, ares1, pack, afill, splice, Value.oneCell', Nat.reduceLT, Nat.reduceLeDiff, Nat.reduceEqDiff, Nat.reduceAdd, Nat.reduceMul, Nat.reduceSub, Nat.reduceBEq, Int.reduceLE, Int.reduceLT, Int.reduceToNat, Int.reduceNeg, Int.reduceEq, axt, ftK, ft3, pickP, AScope, AAll, pickQ, ftQ, inHeap, Nd.cells, getF, tys]
        refine ACallK.heap _ rfl (cStNode h o hk) ?_
        rintro v H2 n2 ⟨rfl, kp⟩
        have kp : Keeps H n H2 n2 := kp
        have h2 := h.keeps kp
        have hS2 := h2.hS
        simp (maxSteps := 400000) (dsimp := false) only [h0, hS2, axs, AThen, ABlock, dstsOk, AStep, callsF, AWant, aop, AS.ev, AS.put, upd, AS.bound, abin, aint, aload, astore, cellsAt, AV.cells, alen, elems, AV.int?, FPost, aresL, ares1, pack, afill, splice, Value.oneCell', Nat.reduceLT, Nat.reduceLeDiff, Nat.reduceEqDiff, Nat.reduceAdd, Nat.reduceMul, Nat.reduceSub, Nat.reduceBEq, Int.reduceLE, Int.reduceLT, Int.reduceToNat, Int.reduceNeg, Int.reduceEq, axt, ftK, ft3, pickP, AScope, AAll, pickQ, ftQ, inHeap, Nd.cells, getF, tys]
        refine ACallK.heap _ rfl (cRAlloc h2.l.ar ok (by omega)) ?_
        rintro v H3 n3 ⟨rfl, to3⟩
        obtain ⟨le3, kp3, s3, ts3, fv3, h3, own3⟩ := h2.nodes to3
        have le3 : n2 ≤ n3 := le3
        have hS3 := h3.hS
        have cs := (cRSet h3.l.ar okA (raAlloc x.R).2 hi ⟨k, 0, 0, 0, 0, 0⟩).mono (R' := fun y H' n' => y = .sc (.bool (raSet (raAlloc x.R).1 (raAlloc x.R).2 ⟨k, 0, 0, 0, 0, 0⟩).2) ∧ ArTo H3 n3 a s3 fv3 H' n' (arnOf (pshR x.R k))) (fun y H' n' ⟨q1, q2, q3⟩ => ⟨q1, by rw [q2, q3]; exact ArTo.setR h3.l.ar okA _ _⟩)
        simp (maxSteps := 400000) (dsimp := false) only [hS3, axs, AThen, ABlock, dstsOk, AStep, callsF, AWant, aop, AS.ev, AS.put, upd, AS.bound, abin, aint, aload, astore, cellsAt, AV.cells, alen, elems, AV.int?, FPost, aresL, ares1, pack, afill, splice, Value.oneCell', Nat.reduceLT, Nat.reduceLeDiff, Nat.reduceEqDiff, Nat.reduceAdd, Nat.reduceMul, Nat.reduceSub, Nat.reduceBEq, Int.reduceLE, Int.reduceLT, Int.reduceToNat, Int.reduceNeg, Int.reduceEq, axt, ftK, ft3, pickP, AScope, AAll, pickQ, ftQ, inHeap, Nd.cells, getF, tys]
        refine ACallK.heap _ rfl cs ?_
        rintro v H4 n4 ⟨rfl, to4⟩
        obtain ⟨le4, kp4, s4, ts4, fv4, h4, own4⟩ := h3.nodes to4
        have le4 : n3 ≤ n4 := le4
        have hS4 := h4.hS
        simp (maxSteps := 400000) (dsimp := false) only [hS4, axs, AThen, ABlock, dstsOk, AStep, callsF, AWant, aop, AS.ev, AS.put, upd, AS.bound, abin, aint, aload, astore, cellsAt, AV.cells, alen, elems, AV.int?, FPost, aresL, ares1, pack, afill, splice, Value.oneCell', Nat.reduceLT, Nat.reduceLeDiff, Nat.reduceEqDiff, Nat.reduceAdd, Nat.reduceMul, Nat.reduceSub, Nat.reduceBEq, Int.reduceLE, Int.reduceLT, Int.reduceToNat, Int.reduceNeg, Int.reduceEq, axt, ftK, ft3, pickP, AScope, AAll, pickQ, ftQ, inHeap, Nd.cells, getF, tys]
        refine ACallK.heap _ rfl (cHtPut h4.t o.i.ok o.tl hk (raAlloc x.R).2) ?_
        rintro v H5 n5 ⟨rfl, to5⟩
        obtain ⟨le5, kp5, s5, ts5, fv5, h5, own5⟩ := h4.table to5
        have le5 : n4 ≤ n5 := le5
        have hS5 := h5.hS
        simp (maxSteps := 400000) (dsimp := false) only [hS5, axs, AThen, ABlock, dstsOk, AStep, callsF, AWant, aop, AS.ev, AS.put, upd, AS.bound, abin, aint, aload, astore, cellsAt, AV.cells, alen, elems, AV.int?, FPost, aresL, ares1, pack, afill, splice, Value.oneCell', Nat.reduceLT, Nat.reduceLeDiff, Nat.reduceEqDiff, Nat.reduceAdd, Nat.reduceMul, Nat.reduceSub, Nat.reduceBEq, Int.reduceLE, Int.reduceLT, Int.reduceToNat, Int.reduceNeg, Int.reduceEq, axt, ftK, ft3, pickP, AScope, AAll, pickQ, ftQ, inHeap, Nd.cells, getF, tys]
        refine ACallK.heap _ rfl (cLsPushBack h5.l q (raAlloc x.R).2 hfi) ?_
        rintro v H6 n6 ⟨rfl, to6⟩
        simp (maxSteps := 400000) (dsimp := false) only [hlo, axs, AThen, ABlock, dstsOk, AStep, callsF, AWant, aop, AS.ev, AS.put, upd, AS.bound, abin, aint, aload, astore, cellsAt, AV.cells, alen, elems, AV.int?, FPost, aresL, ares1, pack, afill, splice, Value.oneCell', Nat.reduceLT, Nat.reduceLeDiff, Nat.reduceEqDiff, Nat.reduceAdd, Nat.reduceMul, Nat.reduceSub, Nat.reduceBEq, Int.reduceLE, Int.reduceLT, Int.reduceToNat, Int.reduceNeg, Int.reduceEq, axt, ftK, ft3, pickP, AScope, AAll, pickQ, ftQ, inHeap, Nd.cells, getF, tys]
        exact ⟨_, rfl, rfl, StTo.after kp (StTo.then le3 kp3 own3 (StTo.then le4 kp4 own4 (StTo.then le5 kp5 own5 (h5.lists to6 (layS_len _ _ _ _ _ _) _))))⟩
      · have e1 : psOk x q k = false := by unfold psOk; rw [decide_eq_false h0, Bool.and_false]
        have e2 : psbS x q k = x := if_neg (by rw [e1]; simp)
        rw [e1, e2]
        refine HCalls.walk Try.func54 rfl rfl Try.ntmps54 Try.results54 (by simp) ?_; simp (maxSteps := 400000) (dsimp := false) only [a0, a1, hS, axs, AThen, ABlock, dstsOk, AStep, callsF, AWant, aop, AS.ev, AS.put, upd, AS.bound, abin, aint, aload, astore, cellsAt, AV.cells, alen, elems, AV.int?, FPost, aresL, ares1, pack, afill, splice, Value.oneCell', Nat.reduceLT, Nat.reduceLeDiff, Nat.reduceEqDiff, Nat.reduceAdd, Nat.reduceMul, Nat.reduceSub, Nat.reduceBEq, Int.reduceLE, Int.reduceLT, Int.reduceToNat, Int.reduceNeg, Int.reduceEq, axt, ftK, ft3, pickP, AScope, AAll, pickQ, ftQ, inHeap, Nd.cells, getF, tys]
        refine ACallK.heap _ rfl (cStNode h o hk) ?_
        rintro v H2 n2 ⟨rfl, kp⟩
        have kp : Keeps H n H2 n2 := kp
        have h2 := h.keeps kp
        simp (maxSteps := 400000) (dsimp := false) only [h0, axs, AThen, ABlock, dstsOk, AStep, callsF, AWant, aop, AS.ev, AS.put, upd, AS.bound, abin, aint, aload, astore, cellsAt, AV.cells, alen, elems, AV.int?, FPost, aresL, ares1, pack, afill, splice, Value.oneCell', Nat.reduceLT, Nat.reduceLeDiff, Nat.reduceEqDiff, Nat.reduceAdd, Nat.reduceMul, Nat.reduceSub, Nat.reduceBEq, Int.reduceLE, Int.reduceLT, Int.reduceToNat, Int.reduceNeg, Int.reduceEq, axt, ftK, ft3, pickP, AScope, AAll, pickQ, ftQ, inHeap, Nd.cells, getF, tys]
        exact ⟨_, rfl, rfl, StTo.after kp (StTo.same h2)⟩
theorem cStPBack (h : StL H n S L r a s ta ts fv x) (o : SOk x) (q : Int) {k : Int} (hk : Key k) :
    HCalls Try.prog 26 [.ptr S 4 0 0, .sc (.int .i64 q), .sc (.int .u64 k)] H n fun y H' n' => y = .sc (.bool (psOk x q k)) ∧ StTo H n S L r a s ta ts fv H' n' (psbS x q k) := by
  refine HCalls.walk Try.func26 rfl rfl Try.ntmps26 Try.results26 (by simp) ?_; simp (maxSteps := 400000) (dsimp := false) only [axs, AThen, ABlock, dstsOk, AStep, callsF, AWant, aop, AS.ev, AS.put, upd, AS.bound, abin, aint, aload, astore, cellsAt, AV.cells, alen, elems, AV.int?, FPost, aresL, ares1, pack, afill, splice, Value.oneCell', Nat.reduceLT, Nat.reduceLeDiff, Nat.reduceEqDiff, Nat.reduceAdd, Nat.reduceMul, Nat.reduceSub, Nat.reduceBEq, Int.reduceLE, Int.reduceLT, Int.reduceToNat, Int.reduceNeg, Int.reduceEq, axt, ftK, ft3, pickP, AScope, AAll, pickQ, ftQ, inHeap, Nd.cells, getF, tys]
  refine ACallK.heap _ rfl (cStPushBack h o q hk) ?_
  rintro v H2 n2 ⟨rfl, to⟩
  simp (maxSteps := 400000) (dsimp := false) only [axs, AThen, ABlock, dstsOk, AStep, callsF, AWant, aop, AS.ev, AS.put, upd, AS.bound, abin, aint, aload, astore, cellsAt, AV.cells, alen, elems, AV.int?, FPost, aresL, ares1, pack, afill, splice, Value.oneCell', Nat.reduceLT, Nat.reduceLeDiff, Nat.reduceEqDiff, Nat.reduceAdd, Nat.reduceMul, Nat.reduceSub, Nat.reduceBEq, Int.reduceLE, Int.reduceLT, Int.reduceToNat, Int.reduceNeg, Int.reduceEq, axt, ftK, ft3, pickP, AScope, AAll, pickQ, ftQ, inHeap, Nd.cells, getF, tys]
  exact ⟨_, rfl, rfl, to⟩
end
end Go.Al
end
section
set_option linter.unusedVariables false
set_option linter.unusedSimpArgs false
set_option maxRecDepth 20000
set_option maxHeartbeats 3200000
-- axs, AThen, ABlock, dstsOk, AStep, callsF, AWant, aop, AS.ev, AS.put, upd, AS.bound, abin, aint, aload, astore, cellsAt, AV.cells, alen, elems, AV.int?, FPost, aresL, ares1, pack, afill, splice, Value.oneCell', Nat.reduceLT, Nat.reduceLeDiff, Nat.reduceEqDiff, Nat.reduceAdd, Nat.reduceMul, Nat.reduceSub, Nat.reduceBEq, Int.reduceLE, Int.reduceLT, Int.reduceToNat, Int.reduceNeg, Int.reduceEq, axt, ftK, ft3, pickP, AScope, AAll, pickQ, ftQ, inHeap, Nd.cells, getF, tys: Nd.cells, getF
namespace Go.Al
open Go.Proofs
def keysQ (x : SS) (q : Int) : List Int := (allL x.ls q).map fun i => (raAt x.R i).key
section
variable {H H' H1 H2 : AH} {n n' n1 n2 S L r a s ta ts s1 ts1 : Nat} {fv fv1 : AV} {x x' : SS}
theorem SOk.all_len (o : SOk x) (q : Int) : (allL x.ls q).length ≤ 1000 := by
  rcases allL_get (ls := x.ls) (t := q) with h | ⟨_, h⟩
  · rw [h]; simp
  · have := o.ev
    have := pigeon x.R.ever.toNat (allL x.ls q) (o.i.inv.one _ _ h) (fun k hk => by have := ra_rng o.i.inv.ok (o.i.inv.live _ _ h k hk); omega)
    omega
theorem SOk.all_live (o : SOk x) {q i : Int} (hi : i ∈ allL x.ls q) : raIs x.R i = true := by
  rcases allL_get (ls := x.ls) (t := q) with h | ⟨_, h⟩
  · rw [h] at hi; cases hi
  · exact o.i.inv.live _ _ h i hi
theorem Keeps.put {H H2 : AH} {n n2 j : Nat} {x : Option AO} (k : Keeps H n H2 n2) (h : n ≤ j) : Keeps H n (Al.upd H2 j x) n2 := ⟨k.1, fun i hi => by rw [upd_ne _ _ (by omega), k.2 i hi]⟩
theorem cStKeys (h : StL H n S L r a s ta ts fv x) (o : SOk x) (q : Int) :
    HCalls Try.prog 21 [.ptr S 4 0 0, .sc (.int .i64 q)] H n fun v H' n' => Live 34 1 H' (U (keysQ x q)) v ∧ Keeps H n H' n' := by
  have hS := h.hS
  have ok := o.i.inv.ok
  have ca := cLsAll h.l o.i.inv (by have := o.q; omega) (by have := o.ev; omega) q
  have hln := o.all_len q
  have hlv := fun i => o.all_live (q := q) (i := i)
  unfold keysQ
  generalize allL x.ls q = xs at *
  refine HCalls.walk Try.func21 rfl rfl Try.ntmps21 Try.results21 (by simp) ?_; simp (maxSteps := 400000) (dsimp := false) only [hS, axs, AThen, ABlock, dstsOk, AStep, callsF, AWant, aop, AS.ev, AS.put, upd, AS.bound, abin, aint, aload, astore, cellsAt, AV.cells, alen, elems, AV.int?, FPost, aresL, ares1, pack, afill, splice, Value.oneCell', Nat.reduceLT, Nat.reduceLeDiff, Nat.reduceEqDiff, Nat.reduceAdd, Nat.reduceMul, Nat.reduceSub, Nat.reduceBEq, Int.reduceLE, Int.reduceLT, Int.reduceToNat, Int.reduceNeg, Int.reduceEq, axt, ftK, ft3, pickP, AScope, AAll, pickQ, ftQ, inHeap, Nd.cells, getF, tys]
  refine ACallK.heap _ rfl (ca) ?_; rintro r' H' n' ⟨rfl, eH, en⟩; obtain rfl := eH.symm; obtain rfl := en.symm; clear eH en; simp (maxSteps := 400000) (dsimp := false) only [I32_len, axs, AThen, ABlock, dstsOk, AStep, callsF, AWant, aop, AS.ev, AS.put, upd, AS.bound, abin, aint, aload, astore, cellsAt, AV.cells, alen, elems, AV.int?, FPost, aresL, ares1, pack, afill, splice, Value.oneCell', Nat.reduceLT, Nat.reduceLeDiff, Nat.reduceEqDiff, Nat.reduceAdd, Nat.reduceMul, Nat.reduceSub, Nat.reduceBEq, Int.reduceLE, Int.reduceLT, Int.reduceToNat, Int.reduceNeg, Int.reduceEq, axt, ftK, ft3, pickP, AScope, AAll, pickQ, ftQ, inHeap, Nd.cells, getF, tys]
  refine ALoop.upto xs.length (fun p t => t.t 0 = .ptr S 4 0 0 ∧ t.t 16 = .lst 1 (I32 xs) ∧ t.t 17 = .sc (.int .i64 xs.length) ∧ t.t 18 = .sc (.int .i64 p) ∧ Live 34 1 t.H (U ((xs.take p).map fun i => (raAt x.R i).key)) (t.t 5) ∧ (∀ id z o m, t.t 5 = .sl id z o m → n ≤ id) ∧ Keeps H n t.H t.n) ⟨rfl, rfl, rfl, rfl, Live.nil, (fun id z o m e => (nomatch e)), Keeps.refl _ _⟩ ?_
  rintro p st hp hb ⟨e0, e16, e17, e18, hv, hid, kp⟩
  rcases Nat.lt_or_ge p xs.length with hlt | hge
  · obtain ⟨i, hi, hp0, hpl, hw, hT, hD⟩ := idx hlt (by omega)
    have hg := I32_get hi
    have h2 := h.keeps kp
    have hS2 := h2.hS
    have hi32 := o.i32 (hlv i (List.mem_of_getElem? hi))
    have cr := cRAt h2.l.ar ok i hi32
    have hU : U ((xs.take (p + 1)).map fun i => (raAt x.R i).key) = U ((xs.take p).map fun i => (raAt x.R i).key) ++ [[.sc (.int .u64 (raAt x.R i).key)]] := by rw [hT, List.map_append, List.map_cons, List.map_nil, U_snoc]
    rw [hU]
    have hql : ((xs.take p).map fun i => (raAt x.R i).key).length = p := by rw [List.length_map, List.length_take]; omega
    generalize (xs.take p).map (fun i => (raAt x.R i).key) = qs at *
    rcases hv.cases hb with ⟨h7, h8⟩ | ⟨id, hlt2, hne, h7, h8⟩
    · have : qs = [] := by simpa [U] using h7
      subst this
      simp (maxSteps := 400000) (dsimp := false) only [e0, e16, e17, e18, hg, hp0, hpl, I32_len, hw, hS2, axs, AThen, ABlock, dstsOk, AStep, callsF, AWant, aop, AS.ev, AS.put, upd, AS.bound, abin, aint, aload, astore, cellsAt, AV.cells, alen, elems, AV.int?, FPost, aresL, ares1, pack, afill, splice, Value.oneCell', Nat.reduceLT, Nat.reduceLeDiff, Nat.reduceEqDiff, Nat.reduceAdd, Nat.reduceMul, Nat.reduceSub, Nat.reduceBEq, Int.reduceLE, Int.reduceLT, Int.reduceToNat, Int.reduceNeg, Int.reduceEq, axt, ftK, ft3, pickP, AScope, AAll, pickQ, ftQ, inHeap, Nd.cells, getF, tys]
      refine ACallK.heap _ rfl (cr) ?_; rintro r' H' n' ⟨rfl, eH, en⟩; obtain rfl := eH.symm; obtain rfl := en.symm; clear eH en; simp (maxSteps := 400000) (dsimp := false) only [e0, e16, e17, e18, hw, h7, h8, axs, AThen, ABlock, dstsOk, AStep, callsF, AWant, aop, AS.ev, AS.put, upd, AS.bound, abin, aint, aload, astore, cellsAt, AV.cells, alen, elems, AV.int?, FPost, aresL, ares1, pack, afill, splice, Value.oneCell', Nat.reduceLT, Nat.reduceLeDiff, Nat.reduceEqDiff, Nat.reduceAdd, Nat.reduceMul, Nat.reduceSub, Nat.reduceBEq, Int.reduceLE, Int.reduceLT, Int.reduceToNat, Int.reduceNeg, Int.reduceEq, axt, ftK, ft3, pickP, AScope, AAll, pickQ, ftQ, inHeap, Nd.cells, getF, tys]
      exact ⟨hlt, Live.mk (upd_same _ _ _) rfl, (fun id z o m e => by cases e; have := kp.1; omega), kp.upd.upd.upd⟩
    · have b1 : (qs.length + 1) * 8 ≤ 140737488355328 := by omega
      have b2 : qs.length + 1 ≤ 1099511627776 := by omega
      have ne2 : ¬ id = st.n + 1 := by omega
      rw [U_len] at h7
      simp (maxSteps := 400000) (dsimp := false) only [e0, e16, e17, e18, hg, hp0, hpl, I32_len, hw, hS2, axs, AThen, ABlock, dstsOk, AStep, callsF, AWant, aop, AS.ev, AS.put, upd, AS.bound, abin, aint, aload, astore, cellsAt, AV.cells, alen, elems, AV.int?, FPost, aresL, ares1, pack, afill, splice, Value.oneCell', Nat.reduceLT, Nat.reduceLeDiff, Nat.reduceEqDiff, Nat.reduceAdd, Nat.reduceMul, Nat.reduceSub, Nat.reduceBEq, Int.reduceLE, Int.reduceLT, Int.reduceToNat, Int.reduceNeg, Int.reduceEq, axt, ftK, ft3, pickP, AScope, AAll, pickQ, ftQ, inHeap, Nd.cells, getF, tys]
      refine ACallK.heap _ rfl (cr) ?_; rintro r' H' n' ⟨rfl, eH, en⟩; obtain rfl := eH.symm; obtain rfl := en.symm; clear eH en; simp (maxSteps := 400000) (dsimp := false) only [e0, e16, e17, e18, hw, h7, h8, hne, ne2, b1, b2, U_len, axs, AThen, ABlock, dstsOk, AStep, callsF, AWant, aop, AS.ev, AS.put, upd, AS.bound, abin, aint, aload, astore, cellsAt, AV.cells, alen, elems, AV.int?, FPost, aresL, ares1, pack, afill, splice, Value.oneCell', Nat.reduceLT, Nat.reduceLeDiff, Nat.reduceEqDiff, Nat.reduceAdd, Nat.reduceMul, Nat.reduceSub, Nat.reduceBEq, Int.reduceLE, Int.reduceLT, Int.reduceToNat, Int.reduceNeg, Int.reduceEq, axt, ftK, ft3, pickP, AScope, AAll, pickQ, ftQ, inHeap, Nd.cells, getF, tys]
      have hid2 := hid _ _ _ _ h7
      exact ⟨hlt, Live.mk (upd_same _ _ _) (by simp [U_len]), (fun id z o m e => by cases e; have := kp.1; omega), (kp.upd.upd.put hid2).upd⟩
  · have hpl : ¬ (p : Int) < xs.length := by omega
    rw [List.take_of_length_le hge] at hv
    simp (maxSteps := 400000) (dsimp := false) only [e0, e16, e17, e18, hpl, axs, AThen, ABlock, dstsOk, AStep, callsF, AWant, aop, AS.ev, AS.put, upd, AS.bound, abin, aint, aload, astore, cellsAt, AV.cells, alen, elems, AV.int?, FPost, aresL, ares1, pack, afill, splice, Value.oneCell', Nat.reduceLT, Nat.reduceLeDiff, Nat.reduceEqDiff, Nat.reduceAdd, Nat.reduceMul, Nat.reduceSub, Nat.reduceBEq, Int.reduceLE, Int.reduceLT, Int.reduceToNat, Int.reduceNeg, Int.reduceEq, axt, ftK, ft3, pickP, AScope, AAll, pickQ, ftQ, inHeap, Nd.cells, getF, tys]
    exact ⟨_, rfl, hv, kp⟩
end
end Go.Al
end
