/- Keys in queues, by the program: all of a queue; a new store. Conditions: the numbers fit their kinds. -/
import Derived.Test.YtdebjhjnpomlmaaSt5
set_option linter.unusedVariables false
set_option linter.unusedSimpArgs false
set_option maxRecDepth 20000
set_option maxHeartbeats 3200000
-- axs, AThen, ABlock, dstsOk, AStep, callsF, AWant, aop, AS.ev, AS.put, upd, AS.bound, abin, aint, aload, astore, cellsAt, AV.cells, alen, elems, AV.int?, FPost, aresL, ares1, pack, afill, splice, Value.oneCell', Nat.reduceLT, Nat.reduceLeDiff, Nat.reduceEqDiff, Nat.reduceAdd, Nat.reduceMul, Nat.reduceSub, Nat.reduceBEq, Int.reduceLE, Int.reduceLT, Int.reduceToNat, Int.reduceNeg, Int.reduceEq, axt, ftK, ft3, pickP, AScope, AAll, pickQ, ftQ, inHeap, Nd.cells, getF, tys: Nd.cells, getF
namespace Go.Al
open Go.Proofs
def keysQ (x : SS) (q : Int) : List Int := (allL x.ls q).map fun i => (raAt x.R i).key
section
variable {H H' H1 H2 : AH} {n n' n1 n2 S L r a s ta ts s1 ts1 : Nat} {fv fv1 : AV} {x x' : SS}
theorem SOk.all_len (o : SOk x) (q : Int) : (allL x.ls q).length ≤ 1000 := by
  rcases allL_get (ls := x.ls) (t := q) with h | ⟨_, h⟩
  · rw [h]; simp
  · have := o.ev
    have := pigeon x.R.ever.toNat (allL x.ls q) (o.i.inv.one _ _ h) (fun k hk => by have := ra_rng o.i.inv.ok (o.i.inv.live _ _ h k hk); omega)
    omega
theorem SOk.all_live (o : SOk x) {q i : Int} (hi : i ∈ allL x.ls q) : raIs x.R i = true := by
  rcases allL_get (ls := x.ls) (t := q) with h | ⟨_, h⟩
  · rw [h] at hi; cases hi
  · exact o.i.inv.live _ _ h i hi
theorem Keeps.put {H H2 : AH} {n n2 j : Nat} {x : Option AO} (k : Keeps H n H2 n2) (h : n ≤ j) : Keeps H n (Al.upd H2 j x) n2 := ⟨k.1, fun i hi => by rw [upd_ne _ _ (by omega), k.2 i hi]⟩
theorem cStKeys (h : StL H n S L r a s ta ts fv x) (o : SOk x) (q : Int) :
    HCalls Try.prog 21 [.ptr S 4 0 0, .sc (.int .i64 q)] H n fun v H' n' => Live 34 1 H' (U (keysQ x q)) v ∧ Keeps H n H' n' := by
  have hS := h.hS
  have ok := o.i.inv.ok
  have ca := cLsAll h.l o.i.inv (by have := o.q; omega) (by have := o.ev; omega) q
  have hln := o.all_len q
  have hlv := fun i => o.all_live (q := q) (i := i)
  unfold keysQ
  generalize allL x.ls q = xs at *
  refine HCalls.walk Try.func21 rfl rfl Try.ntmps21 Try.results21 (by simp) ?_; simp (maxSteps := 400000) (dsimp := false) only [hS, axs, AThen, ABlock, dstsOk, AStep, callsF, AWant, aop, AS.ev, AS.put, upd, AS.bound, abin, aint, aload, astore, cellsAt, AV.cells, alen, elems, AV.int?, FPost, aresL, ares1, pack, afill, splice, Value.oneCell', Nat.reduceLT, Nat.reduceLeDiff, Nat.reduceEqDiff, Nat.reduceAdd, Nat.reduceMul, Nat.reduceSub, Nat.reduceBEq, Int.reduceLE, Int.reduceLT, Int.reduceToNat, Int.reduceNeg, Int.reduceEq, axt, ftK, ft3, pickP, AScope, AAll, pickQ, ftQ, inHeap, Nd.cells, getF, tys]
  refine ACallK.heap _ rfl (ca) ?_; rintro r' H' n' ⟨rfl, eH, en⟩; obtain rfl := eH.symm; obtain rfl := en.symm; clear eH en; simp (maxSteps := 400000) (dsimp := false) only [I32_len, axs, AThen, ABlock, dstsOk, AStep, callsF, AWant, aop, AS.ev, AS.put, upd, AS.bound, abin, aint, aload, astore, cellsAt, AV.cells, alen, elems, AV.int?, FPost, aresL, ares1, pack, afill, splice, Value.oneCell', Nat.reduceLT, Nat.reduceLeDiff, Nat.reduceEqDiff, Nat.reduceAdd, Nat.reduceMul, Nat.reduceSub, Nat.reduceBEq, Int.reduceLE, Int.reduceLT, Int.reduceToNat, Int.reduceNeg, Int.reduceEq, axt, ftK, ft3, pickP, AScope, AAll, pickQ, ftQ, inHeap, Nd.cells, getF, tys]
  refine ALoop.upto xs.length (fun p t => t.t 0 = .ptr S 4 0 0 ∧ t.t 16 = .lst 1 (I32 xs) ∧ t.t 17 = .sc (.int .i64 xs.length) ∧ t.t 18 = .sc (.int .i64 p) ∧ Live 34 1 t.H (U ((xs.take p).map fun i => (raAt x.R i).key)) (t.t 5) ∧ (∀ id z o m, t.t 5 = .sl id z o m → n ≤ id) ∧ Keeps H n t.H t.n) ⟨rfl, rfl, rfl, rfl, Live.nil, (fun id z o m e => (nomatch e)), Keeps.refl _ _⟩ ?_
  rintro p st hp hb ⟨e0, e16, e17, e18, hv, hid, kp⟩
  rcases Nat.lt_or_ge p xs.length with hlt | hge
  · obtain ⟨i, hi, hp0, hpl, hw, hT, hD⟩ := idx hlt (by omega)
    have hg := I32_get hi
    have h2 := h.keeps kp
    have hS2 := h2.hS
    have hi32 := o.i32 (hlv i (List.mem_of_getElem? hi))
    have cr := cRAt h2.l.ar ok i hi32
    have hU : U ((xs.take (p + 1)).map fun i => (raAt x.R i).key) = U ((xs.take p).map fun i => (raAt x.R i).key) ++ [[.sc (.int .u64 (raAt x.R i).key)]] := by rw [hT, List.map_append, List.map_cons, List.map_nil, U_snoc]
    rw [hU]
    have hql : ((xs.take p).map fun i => (raAt x.R i).key).length = p := by rw [List.length_map, List.length_take]; omega
    generalize (xs.take p).map (fun i => (raAt x.R i).key) = qs at *
    rcases hv.cases hb with ⟨h7, h8⟩ | ⟨id, hlt2, hne, h7, h8⟩
    · have : qs = [] := by simpa [U] using h7
      subst this
      simp (maxSteps := 400000) (dsimp := false) only [e0, e16, e17, e18, hg, hp0, hpl, I32_len, hw, hS2, axs, AThen, ABlock, dstsOk, AStep, callsF, AWant, aop, AS.ev, AS.put, upd, AS.bound, abin, aint, aload, astore, cellsAt, AV.cells, alen, elems, AV.int?, FPost, aresL, ares1, pack, afill, splice, Value.oneCell', Nat.reduceLT, Nat.reduceLeDiff, Nat.reduceEqDiff, Nat.reduceAdd, Nat.reduceMul, Nat.reduceSub, Nat.reduceBEq, Int.reduceLE, Int.reduceLT, Int.reduceToNat, Int.reduceNeg, Int.reduceEq, axt, ftK, ft3, pickP, AScope, AAll, pickQ, ftQ, inHeap, Nd.cells, getF, tys]
      refine ACallK.heap _ rfl (cr) ?_; rintro r' H' n' ⟨rfl, eH, en⟩; obtain rfl := eH.symm; obtain rfl := en.symm; clear eH en; simp (maxSteps := 400000) (dsimp := false) only [e0, e16, e17, e18, hw, h7, h8, axs, AThen, ABlock, dstsOk, AStep, callsF, AWant, aop, AS.ev, AS.put, upd, AS.bound, abin, aint, aload, astore, cellsAt, AV.cells, alen, elems, AV.int?, FPost, aresL, ares1, pack, afill, splice, Value.oneCell', Nat.reduceLT, Nat.reduceLeDiff, Nat.reduceEqDiff, Nat.reduceAdd, Nat.reduceMul, Nat.reduceSub, Nat.reduceBEq, Int.reduceLE, Int.reduceLT, Int.reduceToNat, Int.reduceNeg, Int.reduceEq, axt, ftK, ft3, pickP, AScope, AAll, pickQ, ftQ, inHeap, Nd.cells, getF, tys]
      exact ⟨hlt, Live.mk (upd_same _ _ _) rfl, (fun id z o m e => by cases e; have := kp.1; omega), kp.upd.upd.upd⟩
    · have b1 : (qs.length + 1) * 8 ≤ 140737488355328 := by omega
      have b2 : qs.length + 1 ≤ 1099511627776 := by omega
      have ne2 : ¬ id = st.n + 1 := by omega
      rw [U_len] at h7
      simp (maxSteps := 400000) (dsimp := false) only [e0, e16, e17, e18, hg, hp0, hpl, I32_len, hw, hS2, axs, AThen, ABlock, dstsOk, AStep, callsF, AWant, aop, AS.ev, AS.put, upd, AS.bound, abin, aint, aload, astore, cellsAt, AV.cells, alen, elems, AV.int?, FPost, aresL, ares1, pack, afill, splice, Value.oneCell', Nat.reduceLT, Nat.reduceLeDiff, Nat.reduceEqDiff, Nat.reduceAdd, Nat.reduceMul, Nat.reduceSub, Nat.reduceBEq, Int.reduceLE, Int.reduceLT, Int.reduceToNat, Int.reduceNeg, Int.reduceEq, axt, ftK, ft3, pickP, AScope, AAll, pickQ, ftQ, inHeap, Nd.cells, getF, tys]
      refine ACallK.heap _ rfl (cr) ?_; rintro r' H' n' ⟨rfl, eH, en⟩; obtain rfl := eH.symm; obtain rfl := en.symm; clear eH en; simp (maxSteps := 400000) (dsimp := false) only [e0, e16, e17, e18, hw, h7, h8, hne, ne2, b1, b2, U_len, axs, AThen, ABlock, dstsOk, AStep, callsF, AWant, aop, AS.ev, AS.put, upd, AS.bound, abin, aint, aload, astore, cellsAt, AV.cells, alen, elems, AV.int?, FPost, aresL, ares1, pack, afill, splice, Value.oneCell', Nat.reduceLT, Nat.reduceLeDiff, Nat.reduceEqDiff, Nat.reduceAdd, Nat.reduceMul, Nat.reduceSub, Nat.reduceBEq, Int.reduceLE, Int.reduceLT, Int.reduceToNat, Int.reduceNeg, Int.reduceEq, axt, ftK, ft3, pickP, AScope, AAll, pickQ, ftQ, inHeap, Nd.cells, getF, tys]
      have hid2 := hid _ _ _ _ h7
      exact ⟨hlt, Live.mk (upd_same _ _ _) (by simp [U_len]), (fun id z o m e => by cases e; have := kp.1; omega), (kp.upd.upd.put hid2).upd⟩
  · have hpl : ¬ (p : Int) < xs.length := by omega
    rw [List.take_of_length_le hge] at hv
    simp (maxSteps := 400000) (dsimp := false) only [e0, e16, e17, e18, hpl, axs, AThen, ABlock, dstsOk, AStep, callsF, AWant, aop, AS.ev, AS.put, upd, AS.bound, abin, aint, aload, astore, cellsAt, AV.cells, alen, elems, AV.int?, FPost, aresL, ares1, pack, afill, splice, Value.oneCell', Nat.reduceLT, Nat.reduceLeDiff, Nat.reduceEqDiff, Nat.reduceAdd, Nat.reduceMul, Nat.reduceSub, Nat.reduceBEq, Int.reduceLE, Int.reduceLT, Int.reduceToNat, Int.reduceNeg, Int.reduceEq, axt, ftK, ft3, pickP, AScope, AAll, pickQ, ftQ, inHeap, Nd.cells, getF, tys]
    exact ⟨_, rfl, hv, kp⟩
end
end Go.Al
