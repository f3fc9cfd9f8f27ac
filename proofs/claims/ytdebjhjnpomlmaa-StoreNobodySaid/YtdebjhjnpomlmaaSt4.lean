/- Keys in queues, by the program: what a key has is laid; keys are moved, taken out. Conditions: the numbers fit their kinds. -/
import Derived.Test.YtdebjhjnpomlmaaSt3
set_option linter.unusedVariables false
set_option linter.unusedSimpArgs false
set_option maxRecDepth 20000
set_option maxHeartbeats 1600000
-- axs, AThen, ABlock, dstsOk, AStep, callsF, AWant, aop, AS.ev, AS.put, upd, AS.bound, abin, aint, aload, astore, cellsAt, AV.cells, alen, elems, AV.int?, FPost, aresL, ares1, pack, afill, splice, Value.oneCell', Nat.reduceLT, Nat.reduceLeDiff, Nat.reduceEqDiff, Nat.reduceAdd, Nat.reduceMul, Nat.reduceSub, Nat.reduceBEq, Int.reduceLE, Int.reduceLT, Int.reduceToNat, Int.reduceNeg, Int.reduceEq, axt, ftK, ft3, pickP, AScope, AAll, pickQ, ftQ, inHeap, Nd.cells, getF, tys: Nd.cells, getF
namespace Go.Al
open Go.Proofs
/-- A store that a call has turned. -/
structure StTo (H : AH) (n S L r a s ta ts : Nat) (fv : AV) (H' : AH) (n' : Nat) (x' : SS) : Prop where
  le : n ≤ n'
  keep : ∀ j, j < n → ¬ stOwn S L r a s ta ts fv j → H' j = H j
  at_ : ∃ s' ts' fv', StL H' n' S L r a s' ta ts' fv' x' ∧ ∀ j, stOwn S L r a s' ta ts' fv' j → stOwn S L r a s ta ts fv j ∨ n ≤ j
section
variable {H H' H1 H2 : AH} {n n' n1 n2 S L r a s ta ts s1 ts1 : Nat} {fv fv1 : AV} {x x' : SS}
theorem StTo.same (h : StL H n S L r a s ta ts fv x) : StTo H n S L r a s ta ts fv H n x := ⟨Nat.le_refl _, fun _ _ _ => rfl, s, ts, fv, h, fun _ h => .inl h⟩
theorem StTo.then (hle : n ≤ n1) (hkeep : ∀ j, j < n → ¬ stOwn S L r a s ta ts fv j → H1 j = H j) (hown : ∀ j, stOwn S L r a s1 ta ts1 fv1 j → stOwn S L r a s ta ts fv j ∨ n ≤ j)
    (h2 : StTo H1 n1 S L r a s1 ta ts1 fv1 H2 n2 x') : StTo H n S L r a s ta ts fv H2 n2 x' := by
  obtain ⟨k1, k2, s2, ts2, fv2, k3, k4⟩ := h2
  refine ⟨by omega, fun j hj ho => ?_, s2, ts2, fv2, k3, fun j hj => ?_⟩
  · rw [k2 j (by omega) (fun h => ?_), hkeep j hj ho]
    rcases hown j h with h | h
    · exact ho h
    · omega
  · rcases k4 j hj with h | h
    · exact hown j h
    · exact .inr (by omega)
theorem StTo.after (kp : Keeps H n H1 n1) (h2 : StTo H1 n1 S L r a s ta ts fv H2 n2 x') : StTo H n S L r a s ta ts fv H2 n2 x' :=
  StTo.then kp.1 (fun j hj _ => kp.2 j hj) (fun _ h => .inl h) h2
theorem StL.nodes (h : StL H n S L r a s ta ts fv x) {R' : RA} (to : ArTo H n a s fv H' n' (arnOf R')) : StTo H n S L r a s ta ts fv H' n' ⟨R', x.rows, x.ls, x.T⟩ := by
  obtain ⟨k1, k2, s', fv', k3, k4⟩ := to
  obtain ⟨⟨a1, a2, a3, a4, a5⟩, ⟨b1, b2, b3⟩, ⟨c1, c2, c3⟩⟩ := h.sep
  have lL := h.l.lL
  have lr := h.l.lr
  have lS := h.lS
  have la := h.t.la
  have ls := h.t.ls
  have no : ∀ j, j < n → ¬ ArOwn a s fv j → ¬ ArOwn a s' fv' j := fun j hj ho h => by
    rcases k4 j h with h | h
    · exact ho h
    · omega
  refine ⟨k1, fun j hj ho => k2 j hj (fun h => ho (.inr (.inr (.inr (.inl h))))), s', ts, fv', ⟨?_, ⟨?_, ?_, k3, by omega, by omega, no L lL h.l.nL, no r lr h.l.nr⟩, ?_, by omega⟩, ?_⟩
  · rw [k2 S lS a3]; exact h.hS
  · rw [k2 L lL h.l.nL]; exact h.l.hL
  · rw [k2 r lr h.l.nr]; exact h.l.hr
  · exact h.t.keep k1 fun j hj e => by
      rcases e with rfl | rfl
      · exact k2 _ hj b3
      · exact k2 _ hj c3
  · rintro j (h | h | h | h | h | h)
    · exact .inl (.inl h)
    · exact .inl (.inr (.inl h))
    · exact .inl (.inr (.inr (.inl h)))
    · rcases k4 j h with h | h
      · exact .inl (.inr (.inr (.inr (.inl h))))
      · exact .inr h
    · exact .inl (.inr (.inr (.inr (.inr (.inl h)))))
    · exact .inl (.inr (.inr (.inr (.inr (.inr h)))))
theorem StL.lists (h : StL H n S L r a s ta ts fv x) {R' : RA} {rows' : List Rw} (to : LsTo H n L r a s fv H' n' R' rows') (hl : rows'.length = x.rows.length) (ls' : List (List Int)) : StTo H n S L r a s ta ts fv H' n' ⟨R', rows', ls', x.T⟩ := by
  obtain ⟨⟨a1, a2, a3, a4, a5⟩, ⟨b1, b2, b3⟩, ⟨c1, c2, c3⟩⟩ := h.sep
  have ss : S ≠ s := fun e => a3 (.inr (.inl e))
  have ks : ta ≠ s := fun e => b3 (.inr (.inl e))
  have us : ts ≠ s := fun e => c3 (.inr (.inl e))
  have lS := h.lS
  have hle := to.le
  refine ⟨to.le, fun j hj ho => to.keep j hj (fun e => ho (.inr (.inr (.inl e)))) (fun e => ho (.inr (.inr (.inr (.inl (.inr (.inl e))))))), s, ts, fv, ⟨?_, to.ls, ?_, by omega⟩, fun _ h => .inl h⟩
  · rw [to.keep S h.lS a2 ss, hl]; exact h.hS
  · exact h.t.keep to.le fun j hj e => by
      rcases e with rfl | rfl
      · exact to.keep _ hj b2 ks
      · exact to.keep _ hj c2 us
theorem StL.table (h : StL H n S L r a s ta ts fv x) {T' : Tb} (to : HtTo H n ta ts H' n' T') : StTo H n S L r a s ta ts fv H' n' ⟨x.R, x.rows, x.ls, T'⟩ := by
  obtain ⟨k1, k2, ts', k3, k4⟩ := to
  obtain ⟨⟨a1, a2, a3, a4, a5⟩, ⟨b1, b2, b3⟩, ⟨c1, c2, c3⟩⟩ := h.sep
  have lL := h.l.lL
  have lr := h.l.lr
  have lS := h.lS
  refine ⟨k1, fun j hj ho => k2 j hj (fun e => ho (.inr (.inr (.inr (.inr (.inl e)))))) (fun e => ho (.inr (.inr (.inr (.inr (.inr e)))))), s, ts', fv, ⟨?_, ⟨?_, ?_, ?_, by omega, by omega, h.l.nL, h.l.nr⟩, k3, by omega⟩, ?_⟩
  · rw [k2 S lS a4 a5]; exact h.hS
  · rw [k2 L lL (fun e => b1 e.symm) (fun e => c1 e.symm)]; exact h.l.hL
  · rw [k2 r lr (fun e => b2 e.symm) (fun e => c2 e.symm)]; exact h.l.hr
  · exact h.l.ar.keep k1 fun j hj ho => k2 j hj (fun e => b3 (by rw [← e]; exact ho)) (fun e => c3 (by rw [← e]; exact ho))
  · rintro j (h | h | h | h | h | h)
    · exact .inl (.inl h)
    · exact .inl (.inr (.inl h))
    · exact .inl (.inr (.inr (.inl h)))
    · exact .inl (.inr (.inr (.inr (.inl h))))
    · exact .inl (.inr (.inr (.inr (.inr (.inl h)))))
    · rcases k4 with e | e
      · exact .inl (.inr (.inr (.inr (.inr (.inr (h.trans e))))))
      · exact .inr (by omega)
def setS (x : SS) (k : Int) (g : Nd → Nd) : SS := if nodeI x.T k = 0 then x else ⟨wth x.R (nodeI x.T k) g, x.rows, x.ls, x.T⟩
def isIn (x : SS) (k : Int) : Bool := !decide (nodeI x.T k = 0)
theorem cStWith (h : StL H n S L r a s ta ts fv x) (o : SOk x) {k : Int} (hk : Key k) {f : Nat} {caps : List AV} {g : Nd → Nd} (hg : Turns H n f caps g) :
    HCalls Try.prog 61 [.ptr S 4 0 0, .sc (.int .u64 k), .fn f caps] H n fun v H' n' => v = .sc (.bool (isIn x k)) ∧ StTo H n S L r a s ta ts fv H' n' (setS x k g) := by
  have ok := o.i.inv.ok
  have hi := o.node32 k
  refine HCalls.walk Try.func61 rfl rfl Try.ntmps61 Try.results61 (by simp) ?_; simp (maxSteps := 400000) (dsimp := false) only [axs, AThen, ABlock, dstsOk, AStep, callsF, AWant, aop, AS.ev, AS.put, upd, AS.bound, abin, aint, aload, astore, cellsAt, AV.cells, alen, elems, AV.int?, FPost, aresL, ares1, pack, afill, splice, Value.oneCell', Nat.reduceLT, Nat.reduceLeDiff, Nat.reduceEqDiff, Nat.reduceAdd, Nat.reduceMul, Nat.reduceSub, Nat.reduceBEq, Int.reduceLE, Int.reduceLT, Int.reduceToNat, Int.reduceNeg, Int.reduceEq, axt, ftK, ft3, pickP, AScope, AAll, pickQ, ftQ, inHeap, Nd.cells, getF, tys]
  refine ACallK.heap _ rfl (cStNode h o hk) ?_
  rintro v H2 n2 ⟨rfl, kp⟩
  have kp : Keeps H n H2 n2 := kp
  have h2 := h.keeps kp
  have hS := h2.hS
  have lS := h2.lS
  by_cases h0 : nodeI x.T k = 0
  · have e1 : isIn x k = false := by unfold isIn; rw [h0]; rfl
    have e2 : setS x k g = x := if_pos h0
    rw [e1, e2]
    simp (maxSteps := 400000) (dsimp := false) only [h0, axs, AThen, ABlock, dstsOk, AStep, callsF, AWant, aop, AS.ev, AS.put, upd, AS.bound, abin, aint, aload, astore, cellsAt, AV.cells, alen, elems, AV.int?, FPost, aresL, ares1, pack, afill, splice, Value.oneCell', Nat.reduceLT, Nat.reduceLeDiff, Nat.reduceEqDiff, Nat.reduceAdd, Nat.reduceMul, Nat.reduceSub, Nat.reduceBEq, Int.reduceLE, Int.reduceLT, Int.reduceToNat, Int.reduceNeg, Int.reduceEq, axt, ftK, ft3, pickP, AScope, AAll, pickQ, ftQ, inHeap, Nd.cells, getF, tys]
    exact ⟨_, rfl, rfl, StTo.after kp (StTo.same h2)⟩
  · have e1 : isIn x k = true := by unfold isIn; rw [decide_eq_false h0]; rfl
    have e2 : setS x k g = ⟨wth x.R (nodeI x.T k) g, x.rows, x.ls, x.T⟩ := if_neg h0
    rw [e1, e2]
    have hlive : raIs x.R (nodeI x.T k) = true := by
      rcases o.i.node k with ⟨h1, _⟩ | ⟨h1, _⟩
      · exact h1
      · exact absurd h1 h0
    have hset : (raSet x.R (nodeI x.T k) (g (raAt x.R (nodeI x.T k)))).2 = true := by unfold raSet; rw [if_pos hlive]
    have ne1 : ¬ S = n2 := by omega
    have ne2 : ¬ S = n2 + 1 := by omega
    have k3 := (Keeps.refl H2 n2).upd (x := some (.obj 82 6 [(raAt x.R (nodeI x.T k)).cells] false))
    have k4 := k3.upd (x := some (.obj 82 6 [(raAt x.R (nodeI x.T k)).cells] false))
    have k5 := k3.upd (x := some (.obj 82 6 [(g (raAt x.R (nodeI x.T k))).cells] false))
    have h5 := h2.keeps k5
    simp (maxSteps := 400000) (dsimp := false) only [h0, hS, axs, AThen, ABlock, dstsOk, AStep, callsF, AWant, aop, AS.ev, AS.put, upd, AS.bound, abin, aint, aload, astore, cellsAt, AV.cells, alen, elems, AV.int?, FPost, aresL, ares1, pack, afill, splice, Value.oneCell', Nat.reduceLT, Nat.reduceLeDiff, Nat.reduceEqDiff, Nat.reduceAdd, Nat.reduceMul, Nat.reduceSub, Nat.reduceBEq, Int.reduceLE, Int.reduceLT, Int.reduceToNat, Int.reduceNeg, Int.reduceEq, axt, ftK, ft3, pickP, AScope, AAll, pickQ, ftQ, inHeap, Nd.cells, getF, tys]
    refine ACallK.heap _ rfl (cRAt h2.l.ar ok (nodeI x.T k) hi) ?_; rintro r' H' n' ⟨rfl, eH, en⟩; obtain rfl := eH.symm; obtain rfl := en.symm; clear eH en; simp (maxSteps := 400000) (dsimp := false) only [hS, ne1, ne2, axs, AThen, ABlock, dstsOk, AStep, callsF, AWant, aop, AS.ev, AS.put, upd, AS.bound, abin, aint, aload, astore, cellsAt, AV.cells, alen, elems, AV.int?, FPost, aresL, ares1, pack, afill, splice, Value.oneCell', Nat.reduceLT, Nat.reduceLeDiff, Nat.reduceEqDiff, Nat.reduceAdd, Nat.reduceMul, Nat.reduceSub, Nat.reduceBEq, Int.reduceLE, Int.reduceLT, Int.reduceToNat, Int.reduceNeg, Int.reduceEq, axt, ftK, ft3, pickP, AScope, AAll, pickQ, ftQ, inHeap, Nd.cells, getF, tys]
    simp only [upd_upd]
    refine ACallK.heap _ rfl (hg (raAt x.R (nodeI x.T k)) _ _ (n2 + 1) (kp.trans k4) (by have := kp.1; omega) (Nat.lt_succ_self _) (by simp [upd, neS]; rfl)) ?_
    rintro v H' n' ⟨rfl, rfl, rfl⟩
    rw [upd_upd]
    simp (maxSteps := 400000) (dsimp := false) only [axs, AThen, ABlock, dstsOk, AStep, callsF, AWant, aop, AS.ev, AS.put, upd, AS.bound, abin, aint, aload, astore, cellsAt, AV.cells, alen, elems, AV.int?, FPost, aresL, ares1, pack, afill, splice, Value.oneCell', Nat.reduceLT, Nat.reduceLeDiff, Nat.reduceEqDiff, Nat.reduceAdd, Nat.reduceMul, Nat.reduceSub, Nat.reduceBEq, Int.reduceLE, Int.reduceLT, Int.reduceToNat, Int.reduceNeg, Int.reduceEq, axt, ftK, ft3, pickP, AScope, AAll, pickQ, ftQ, inHeap, Nd.cells, getF, tys]
    refine ADraw.planQR [6] [] [(0, true), (1, true), (2, true), (3, true), (4, true), (5, true), (6, true), (7, true)] [(0, 0), (0, 0), (0, 0), (0, 0), (0, 0), (0, 0), (0, 1), (0, 0)] mixed (by kernel_rfl) (by kernel_rfl) ?_
    simp (maxSteps := 400000) (dsimp := false) only [hS, ne1, ne2, axs, AThen, ABlock, dstsOk, AStep, callsF, AWant, aop, AS.ev, AS.put, upd, AS.bound, abin, aint, aload, astore, cellsAt, AV.cells, alen, elems, AV.int?, FPost, aresL, ares1, pack, afill, splice, Value.oneCell', Nat.reduceLT, Nat.reduceLeDiff, Nat.reduceEqDiff, Nat.reduceAdd, Nat.reduceMul, Nat.reduceSub, Nat.reduceBEq, Int.reduceLE, Int.reduceLT, Int.reduceToNat, Int.reduceNeg, Int.reduceEq, axt, ftK, ft3, pickP, AScope, AAll, pickQ, ftQ, inHeap, Nd.cells, getF, tys]
    refine ASoloK.heap rfl rfl (cRSet h5.l.ar ok (nodeI x.T k) hi (g (raAt x.R (nodeI x.T k)))) ?_; simp (maxSteps := 400000) (dsimp := false) only [hset, axs, AThen, ABlock, dstsOk, AStep, callsF, AWant, aop, AS.ev, AS.put, upd, AS.bound, abin, aint, aload, astore, cellsAt, AV.cells, alen, elems, AV.int?, FPost, aresL, ares1, pack, afill, splice, Value.oneCell', Nat.reduceLT, Nat.reduceLeDiff, Nat.reduceEqDiff, Nat.reduceAdd, Nat.reduceMul, Nat.reduceSub, Nat.reduceBEq, Int.reduceLE, Int.reduceLT, Int.reduceToNat, Int.reduceNeg, Int.reduceEq, axt, ftK, ft3, pickP, AScope, AAll, pickQ, ftQ, inHeap, Nd.cells, getF, tys]
    exact ⟨_, rfl, rfl, StTo.after (kp.trans k5) (h5.nodes (ArTo.setR h5.l.ar ok (nodeI x.T k) (g (raAt x.R (nodeI x.T k)))))⟩
def gVal (v : Int) (x : Nd) : Nd := ⟨x.key, v, x.flag, x.tag, x.prev, x.next⟩
def gFlag (v : Int) (x : Nd) : Nd := ⟨x.key, x.val, v, x.tag, x.prev, x.next⟩
theorem cStSetVal (h : StL H n S L r a s ta ts fv x) (o : SOk x) {k : Int} (hk : Key k) (v : Int) :
    HCalls Try.prog 29 [.ptr S 4 0 0, .sc (.int .u64 k), .sc (.int .u64 v)] H n fun y H' n' => y = .sc (.bool (isIn x k)) ∧ StTo H n S L r a s ta ts fv H' n' (setS x k (gVal v)) := by
  have kb := (Keeps.refl H n).upd (x := some (.obj 34 1 [[.sc (.int .u64 v)]] false))
  have hg : Turns (upd H n (some (.obj 34 1 [[.sc (.int .u64 v)]] false))) (n + 1) 62 [.ptr n 1 0 0] (gVal v) := by
    intro x H1 n1 p hk h1 h2 hp
    have hb1 := (hk.2 n (by omega)).trans (upd_same _ _ _)
    refine HCalls.walk Try.func62 rfl rfl Try.ntmps62 Try.results62 (by simp) ?_; simp (maxSteps := 400000) (dsimp := false) only [hp, hb1, axs, AThen, ABlock, dstsOk, AStep, callsF, AWant, aop, AS.ev, AS.put, upd, AS.bound, abin, aint, aload, astore, cellsAt, AV.cells, alen, elems, AV.int?, FPost, aresL, ares1, pack, afill, splice, Value.oneCell', Nat.reduceLT, Nat.reduceLeDiff, Nat.reduceEqDiff, Nat.reduceAdd, Nat.reduceMul, Nat.reduceSub, Nat.reduceBEq, Int.reduceLE, Int.reduceLT, Int.reduceToNat, Int.reduceNeg, Int.reduceEq, axt, ftK, ft3, pickP, AScope, AAll, pickQ, ftQ, inHeap, Nd.cells, getF, tys]
    exact ⟨_, rfl, rfl, rfl⟩
  refine HCalls.walk Try.func29 rfl rfl Try.ntmps29 Try.results29 (by simp) ?_; simp (maxSteps := 400000) (dsimp := false) only [axs, AThen, ABlock, dstsOk, AStep, callsF, AWant, aop, AS.ev, AS.put, upd, AS.bound, abin, aint, aload, astore, cellsAt, AV.cells, alen, elems, AV.int?, FPost, aresL, ares1, pack, afill, splice, Value.oneCell', Nat.reduceLT, Nat.reduceLeDiff, Nat.reduceEqDiff, Nat.reduceAdd, Nat.reduceMul, Nat.reduceSub, Nat.reduceBEq, Int.reduceLE, Int.reduceLT, Int.reduceToNat, Int.reduceNeg, Int.reduceEq, axt, ftK, ft3, pickP, AScope, AAll, pickQ, ftQ, inHeap, Nd.cells, getF, tys]
  refine ACallK.heap _ rfl (cStWith (h.keeps kb) o hk hg) ?_
  rintro y H2 n2 ⟨rfl, to⟩
  simp (maxSteps := 400000) (dsimp := false) only [axs, AThen, ABlock, dstsOk, AStep, callsF, AWant, aop, AS.ev, AS.put, upd, AS.bound, abin, aint, aload, astore, cellsAt, AV.cells, alen, elems, AV.int?, FPost, aresL, ares1, pack, afill, splice, Value.oneCell', Nat.reduceLT, Nat.reduceLeDiff, Nat.reduceEqDiff, Nat.reduceAdd, Nat.reduceMul, Nat.reduceSub, Nat.reduceBEq, Int.reduceLE, Int.reduceLT, Int.reduceToNat, Int.reduceNeg, Int.reduceEq, axt, ftK, ft3, pickP, AScope, AAll, pickQ, ftQ, inHeap, Nd.cells, getF, tys]
  exact ⟨_, rfl, rfl, StTo.after kb to⟩
theorem cStSetFlag (h : StL H n S L r a s ta ts fv x) (o : SOk x) {k : Int} (hk : Key k) (v : Int) :
    HCalls Try.prog 30 [.ptr S 4 0 0, .sc (.int .u64 k), .sc (.int .i64 v)] H n fun y H' n' => y = .sc (.bool (isIn x k)) ∧ StTo H n S L r a s ta ts fv H' n' (setS x k (gFlag v)) := by
  have kb := (Keeps.refl H n).upd (x := some (.obj 3 1 [[.sc (.int .i64 v)]] false))
  have hg : Turns (upd H n (some (.obj 3 1 [[.sc (.int .i64 v)]] false))) (n + 1) 63 [.ptr n 1 0 0] (gFlag v) := by
    intro x H1 n1 p hk h1 h2 hp
    have hb1 := (hk.2 n (by omega)).trans (upd_same _ _ _)
    refine HCalls.walk Try.func63 rfl rfl Try.ntmps63 Try.results63 (by simp) ?_; simp (maxSteps := 400000) (dsimp := false) only [hp, hb1, axs, AThen, ABlock, dstsOk, AStep, callsF, AWant, aop, AS.ev, AS.put, upd, AS.bound, abin, aint, aload, astore, cellsAt, AV.cells, alen, elems, AV.int?, FPost, aresL, ares1, pack, afill, splice, Value.oneCell', Nat.reduceLT, Nat.reduceLeDiff, Nat.reduceEqDiff, Nat.reduceAdd, Nat.reduceMul, Nat.reduceSub, Nat.reduceBEq, Int.reduceLE, Int.reduceLT, Int.reduceToNat, Int.reduceNeg, Int.reduceEq, axt, ftK, ft3, pickP, AScope, AAll, pickQ, ftQ, inHeap, Nd.cells, getF, tys]
    exact ⟨_, rfl, rfl, rfl⟩
  refine HCalls.walk Try.func30 rfl rfl Try.ntmps30 Try.results30 (by simp) ?_; simp (maxSteps := 400000) (dsimp := false) only [axs, AThen, ABlock, dstsOk, AStep, callsF, AWant, aop, AS.ev, AS.put, upd, AS.bound, abin, aint, aload, astore, cellsAt, AV.cells, alen, elems, AV.int?, FPost, aresL, ares1, pack, afill, splice, Value.oneCell', Nat.reduceLT, Nat.reduceLeDiff, Nat.reduceEqDiff, Nat.reduceAdd, Nat.reduceMul, Nat.reduceSub, Nat.reduceBEq, Int.reduceLE, Int.reduceLT, Int.reduceToNat, Int.reduceNeg, Int.reduceEq, axt, ftK, ft3, pickP, AScope, AAll, pickQ, ftQ, inHeap, Nd.cells, getF, tys]
  refine ACallK.heap _ rfl (cStWith (h.keeps kb) o hk hg) ?_
  rintro y H2 n2 ⟨rfl, to⟩
  simp (maxSteps := 400000) (dsimp := false) only [axs, AThen, ABlock, dstsOk, AStep, callsF, AWant, aop, AS.ev, AS.put, upd, AS.bound, abin, aint, aload, astore, cellsAt, AV.cells, alen, elems, AV.int?, FPost, aresL, ares1, pack, afill, splice, Value.oneCell', Nat.reduceLT, Nat.reduceLeDiff, Nat.reduceEqDiff, Nat.reduceAdd, Nat.reduceMul, Nat.reduceSub, Nat.reduceBEq, Int.reduceLE, Int.reduceLT, Int.reduceToNat, Int.reduceNeg, Int.reduceEq, axt, ftK, ft3, pickP, AScope, AAll, pickQ, ftQ, inHeap, Nd.cells, getF, tys]
  exact ⟨_, rfl, rfl, StTo.after kb to⟩
end
end Go.Al
