/- Keys in queues: the program's queues, and the reference's, are told alike, by key. Conditions: the numbers fit their kinds. -/
import Derived.Test.YtdebjhjnpomlmaaStG
set_option linter.unusedVariables false
set_option linter.unusedSimpArgs false
set_option maxRecDepth 20000
set_option maxHeartbeats 6400000
-- axs, AThen, ABlock, dstsOk, AStep, callsF, AWant, aop, AS.ev, AS.put, upd, AS.bound, abin, aint, aload, astore, cellsAt, AV.cells, alen, elems, AV.int?, FPost, aresL, ares1, pack, afill, splice, Value.oneCell', Nat.reduceLT, Nat.reduceLeDiff, Nat.reduceEqDiff, Nat.reduceAdd, Nat.reduceMul, Nat.reduceSub, Nat.reduceBEq, Int.reduceLE, Int.reduceLT, Int.reduceToNat, Int.reduceNeg, Int.reduceEq, axt, ftK, ft3, pickP, AScope, AAll, pickQ, ftQ, inHeap, SAct.cells, tys: SAct.cells
-- NOIDS: noIdsE_EN, noIdsE_LE, noIdsE_TL, noIdsE_U, noIdsE_SA
-- LENS: EN_len, LE_len, TL_len, U_len, SA_len
namespace Go.Al
open Go.Proofs
section
variable {x : SS}
theorem keysE_ents (x : SS) (q : Int) : keysE (ents x) q = keysQ x q := by
  unfold keysE keysQ allL
  by_cases h : 0 ≤ q
  · rw [if_pos h, if_pos h, ents_getD, List.map_map]; rfl
  · rw [if_neg h, if_neg h]; rfl
theorem keysQ_len (x : SS) (q : Int) : (keysQ x q).length = (allL x.ls q).length := by unfold keysQ; rw [List.length_map]
theorem lenQ_keys (h : SInv x.R x.rows x.ls x.T) (q : Int) : lenQ x.rows q = ((keysQ x q).length : Int) := by
  rw [keysQ_len]
  have inv := h.inv
  unfold lenQ allL
  by_cases h0 : 0 ≤ q
  · rw [if_pos h0]
    by_cases h1 : q < x.rows.length
    · obtain ⟨l, hl, hr⟩ := inv.at (t := q.toNat) (by omega)
      rw [if_pos ⟨h0, h1⟩, hr, List.getD_eq_getElem?_getD, hl]
      rfl
    · rw [if_neg (by omega), List.getD_eq_getElem?_getD, List.getElem?_eq_none (by rw [← inv.len]; omega)]
      rfl
  · rw [if_neg (by omega), if_neg h0]; rfl
theorem back_keys (h : SInv x.R x.rows x.ls x.T) (q : Int) : backR x.rows q = (allL x.ls q).getLastD 0 := by
  have inv := h.inv
  unfold backR allL
  by_cases h0 : 0 ≤ q
  · rw [if_pos h0]
    by_cases h1 : q < x.rows.length
    · obtain ⟨l, hl, hr⟩ := inv.at (t := q.toNat) (by omega)
      rw [if_pos ⟨h0, h1⟩, hr, List.getD_eq_getElem?_getD, hl]
      rfl
    · rw [if_neg (by omega), List.getD_eq_getElem?_getD, List.getElem?_eq_none (by rw [← inv.len]; omega)]
      rfl
  · rw [if_neg (by omega), if_neg h0]; rfl
theorem all_pos (h : SInv x.R x.rows x.ls x.T) {q i : Int} (hi : i ∈ allL x.ls q) : raIs x.R i = true ∧ i ≠ 0 := by
  rcases allL_get (ls := x.ls) (t := q) with e | ⟨_, e⟩
  · rw [e] at hi; cases hi
  · have h1 := h.inv.live _ _ e i hi
    have := ra_rng h.inv.ok h1
    exact ⟨h1, by omega⟩
theorem ends_keys (h : SInv x.R x.rows x.ls x.T) (q : Int) : (raAt x.R (frontR x.rows q)).key = hd0 (keysQ x q) ∧ (raAt x.R (backR x.rows q)).key = (keysQ x q).getLastD 0 ∧ (!decide (frontR x.rows q = 0)) = !decide (keysQ x q = []) ∧ (!decide (backR x.rows q = 0)) = !decide (keysQ x q = []) := by
  have hp := fun i => all_pos h (q := q) (i := i)
  rw [h.inv.front_eq, back_keys h]
  unfold keysQ
  generalize allL x.ls q = xs at *
  cases xs with
  | nil => exact ⟨rfl, rfl, rfl, rfl⟩
  | cons i l =>
    have h1 : ¬ hd0 (i :: l) = 0 := (hp i List.mem_cons_self).2
    have hlast : (i :: l).getLastD 0 ∈ i :: l := List.mem_of_getElem? (lastD_mem (by simp))
    have h2 := (hp _ hlast).2
    have h3 : ((i :: l).map fun i => (raAt x.R i).key) ≠ [] := by simp
    refine ⟨rfl, ?_, ?_, ?_⟩
    · have e1 := lastD_mem (l := i :: l) (by simp)
      have e2 := lastD_mem h3
      rw [List.length_map, List.getElem?_map, e1] at e2
      exact Option.some.inj e2
    · rw [decide_eq_false h1, decide_eq_false h3]
    · rw [decide_eq_false h2, decide_eq_false h3]
end
theorem cSame06 {H : AH} {n S L r a s ta ts : Nat} {fv : AV} {x : SS} (h : StL H n S L r a s ta ts fv x) (o : SOk x) (hc : cnt x.T = tot x.ls) (N : Int) (T : Tb) :
    HCalls Try.prog 22 [.ptr S 4 0 0, SV (ents x) N T] H n fun v H' n' => v = .sc (.bool true) ∧ Keeps H n H' n' := by
  have w := o.few
  have ct := rTotalL (N := N) (T := T) w
  rw [totE_ents] at ct
  unfold SV at *
  refine HCalls.walk Try.func22 rfl rfl Try.ntmps22 Try.results22 (by simp) ?_; simp (maxSteps := 400000) (dsimp := false) only [axs, AThen, ABlock, dstsOk, AStep, callsF, AWant, aop, AS.ev, AS.put, upd, AS.bound, abin, aint, aload, astore, cellsAt, AV.cells, alen, elems, AV.int?, FPost, aresL, ares1, pack, afill, splice, Value.oneCell', Nat.reduceLT, Nat.reduceLeDiff, Nat.reduceEqDiff, Nat.reduceAdd, Nat.reduceMul, Nat.reduceSub, Nat.reduceBEq, Int.reduceLE, Int.reduceLT, Int.reduceToNat, Int.reduceNeg, Int.reduceEq, axt, ftK, ft3, pickP, AScope, AAll, pickQ, ftQ, inHeap, SAct.cells, tys]
  refine ALoop.upto 6 (fun p t => t.t 0 = .ptr S 4 0 0 ∧ t.t 3 = .ptr n 3 0 0 ∧ t.t 5 = .sc (.int .i64 ((p : Int) - 1)) ∧ n < t.n ∧ t.H n = some (.obj 31 3 [[.lst 1 (LE (ents x)), .sc (.int .i64 N), .lst 3 (TL T)]] false) ∧ Keeps H n t.H t.n) ⟨rfl, rfl, rfl, by show n < n + 1; omega, by simp [Al.upd], (Keeps.refl _ _).upd⟩ ?_
  rintro p st hp hb ⟨e0, e3, e5, hlt0, eb, kp⟩
  have w1 : IntKind.i64.wrap ((p : Int) - 1 + 1) = ((p + 1 : Nat) : Int) - 1 := by rw [IntWalk.i64_in _ ⟨by omega, by omega⟩]; omega
  have h2 := h.keeps kp
  rcases Nat.lt_or_ge p 6 with hlt | hge
  · have hpl : (p : Int) - 1 < 5 := by omega
    have ck := cStKeys h2 o ((p : Int) - 1)
    have cf := (cStFront h2 o ((p : Int) - 1)).forget rfl
    have cb := (cStBack h2 o ((p : Int) - 1)).forget rfl
    have cl := fun H' n' (k : Keeps st.H st.n H' n') => cStLen (h2.keeps k) ((p : Int) - 1)
    have cr := rKeysL (N := N) (T := T) w ((p : Int) - 1)
    obtain ⟨f1, f2, f3, f4⟩ := ends_keys o.i ((p : Int) - 1)
    have hln : (keysQ x ((p : Int) - 1)).length ≤ 1000 := by rw [keysQ_len]; exact o.all_len _
    rw [keysE_ents] at cr
    rw [f1, f3] at cf
    rw [f2, f4] at cb
    rw [lenQ_keys o.i] at cl
    clear f1 f2 f3 f4
    generalize keysQ x ((p : Int) - 1) = xs at *
    have cs := rSameL xs hln
    unfold SV at cr
    simp (maxSteps := 400000) (dsimp := false) only [e0, e3, e5, hpl, eb, axs, AThen, ABlock, dstsOk, AStep, callsF, AWant, aop, AS.ev, AS.put, upd, AS.bound, abin, aint, aload, astore, cellsAt, AV.cells, alen, elems, AV.int?, FPost, aresL, ares1, pack, afill, splice, Value.oneCell', Nat.reduceLT, Nat.reduceLeDiff, Nat.reduceEqDiff, Nat.reduceAdd, Nat.reduceMul, Nat.reduceSub, Nat.reduceBEq, Int.reduceLE, Int.reduceLT, Int.reduceToNat, Int.reduceNeg, Int.reduceEq, axt, ftK, ft3, pickP, AScope, AAll, pickQ, ftQ, inHeap, SAct.cells, tys]
    refine ACallK.strict rfl (cr) (by simp only [SeesL, e0, e3, e5, eb, U_len, axs, axt, AS.ev, AS.put, upd, inHeap, Nat.reduceLT, Nat.reduceEqDiff, Nat.reduceAdd, Nat.reduceBEq, SAct.cells]; repeat' (first | exact True.intro | exact Sees.sc | exact Sees.none | ((with_reducible refine Sees.same ?_) <;> simp [noIds, noIdsL, noIdsE, noIdsE_U, noIdsE_UU, noIdsE_EN, noIdsE_LE, noIdsE_TL, noIdsE_U, noIdsE_SA] <;> fail) | (refine Live.sees ?_ ?_ <;> first | assumption | (simp [noIdsE_U, noIdsE_UU, noIdsE_EN, noIdsE_LE, noIdsE_TL, noIdsE_U, noIdsE_SA] <;> fail)) | (refine Sees.obj ?_ ?_ ?_ <;> first | exact ⟨_, _, by assumption, rfl⟩ | (simp [U_len, UU_len, EN_len, LE_len, TL_len, U_len, SA_len] <;> fail) | (simp [noIdsE_U, noIdsE_UU, noIdsE_EN, noIdsE_LE, noIdsE_TL, noIdsE_U, noIdsE_SA] <;> fail) | (simp [U, UU, upd] <;> fail) | (simp [U, UU, upd, neS, *] <;> fail)) | (refine Sees.of_seen 3 ?_ <;> simp [seen, upd, noIdsE, noIdsL, noIds, U, UU, Nat.add_assoc] <;> fail) | refine Sees.agg ?_ | refine And.intro ?_ ?_ | simp only [SeesL])) ?_; simp (maxSteps := 400000) (dsimp := false) only [e0, e3, e5, eb, U_len, axs, AThen, ABlock, dstsOk, AStep, callsF, AWant, aop, AS.ev, AS.put, upd, AS.bound, abin, aint, aload, astore, cellsAt, AV.cells, alen, elems, AV.int?, FPost, aresL, ares1, pack, afill, splice, Value.oneCell', Nat.reduceLT, Nat.reduceLeDiff, Nat.reduceEqDiff, Nat.reduceAdd, Nat.reduceMul, Nat.reduceSub, Nat.reduceBEq, Int.reduceLE, Int.reduceLT, Int.reduceToNat, Int.reduceNeg, Int.reduceEq, axt, ftK, ft3, pickP, AScope, AAll, pickQ, ftQ, inHeap, SAct.cells, tys]
    by_cases hx : xs = []
    · have z0 : ¬ (xs.length : Int) > 0 := by rw [hx]; simp
      have c1 : hd0 xs = 0 := by rw [hx]; rfl
      have c2 : xs.getLastD 0 = 0 := by rw [hx]; rfl
      rw [c1, decide_eq_true hx, Bool.not_true] at cf
      rw [c2, decide_eq_true hx, Bool.not_true] at cb
      simp (maxSteps := 400000) (dsimp := false) only [e0, e3, e5, z0, U_len, axs, AThen, ABlock, dstsOk, AStep, callsF, AWant, aop, AS.ev, AS.put, upd, AS.bound, abin, aint, aload, astore, cellsAt, AV.cells, alen, elems, AV.int?, FPost, aresL, ares1, pack, afill, splice, Value.oneCell', Nat.reduceLT, Nat.reduceLeDiff, Nat.reduceEqDiff, Nat.reduceAdd, Nat.reduceMul, Nat.reduceSub, Nat.reduceBEq, Int.reduceLE, Int.reduceLT, Int.reduceToNat, Int.reduceNeg, Int.reduceEq, axt, ftK, ft3, pickP, AScope, AAll, pickQ, ftQ, inHeap, SAct.cells, tys]
      refine ACallK.heap _ rfl (cf) ?_; rintro r' H' n' ⟨rfl, eH, en⟩; obtain rfl := eH.symm; obtain rfl := en.symm; clear eH en; simp (maxSteps := 400000) (dsimp := false) only [e0, e3, e5, axs, AThen, ABlock, dstsOk, AStep, callsF, AWant, aop, AS.ev, AS.put, upd, AS.bound, abin, aint, aload, astore, cellsAt, AV.cells, alen, elems, AV.int?, FPost, aresL, ares1, pack, afill, splice, Value.oneCell', Nat.reduceLT, Nat.reduceLeDiff, Nat.reduceEqDiff, Nat.reduceAdd, Nat.reduceMul, Nat.reduceSub, Nat.reduceBEq, Int.reduceLE, Int.reduceLT, Int.reduceToNat, Int.reduceNeg, Int.reduceEq, axt, ftK, ft3, pickP, AScope, AAll, pickQ, ftQ, inHeap, SAct.cells, tys]
      refine ACallK.heap _ rfl (cb) ?_; rintro r' H' n' ⟨rfl, eH, en⟩; obtain rfl := eH.symm; obtain rfl := en.symm; clear eH en; simp (maxSteps := 400000) (dsimp := false) only [e0, e3, e5, axs, AThen, ABlock, dstsOk, AStep, callsF, AWant, aop, AS.ev, AS.put, upd, AS.bound, abin, aint, aload, astore, cellsAt, AV.cells, alen, elems, AV.int?, FPost, aresL, ares1, pack, afill, splice, Value.oneCell', Nat.reduceLT, Nat.reduceLeDiff, Nat.reduceEqDiff, Nat.reduceAdd, Nat.reduceMul, Nat.reduceSub, Nat.reduceBEq, Int.reduceLE, Int.reduceLT, Int.reduceToNat, Int.reduceNeg, Int.reduceEq, axt, ftK, ft3, pickP, AScope, AAll, pickQ, ftQ, inHeap, SAct.cells, tys]
      refine ACallK.heap _ rfl ck ?_
      rintro v H2 n2 ⟨lv, kp2⟩
      have kp2 : Keeps st.H st.n H2 n2 := kp2
      have lv : Live 34 1 H2 (U xs) v := lv
      simp (maxSteps := 400000) (dsimp := false) only [e0, e3, e5, axs, AThen, ABlock, dstsOk, AStep, callsF, AWant, aop, AS.ev, AS.put, upd, AS.bound, abin, aint, aload, astore, cellsAt, AV.cells, alen, elems, AV.int?, FPost, aresL, ares1, pack, afill, splice, Value.oneCell', Nat.reduceLT, Nat.reduceLeDiff, Nat.reduceEqDiff, Nat.reduceAdd, Nat.reduceMul, Nat.reduceSub, Nat.reduceBEq, Int.reduceLE, Int.reduceLT, Int.reduceToNat, Int.reduceNeg, Int.reduceEq, axt, ftK, ft3, pickP, AScope, AAll, pickQ, ftQ, inHeap, SAct.cells, tys]
      refine ACallK.flat rfl cs (by simp only [SeesL, e0, e3, e5, axs, axt, AS.ev, AS.put, upd, inHeap, Nat.reduceLT, Nat.reduceEqDiff, Nat.reduceAdd, Nat.reduceBEq, SAct.cells]; exact ⟨Live.sees lv (noIdsE_U _), Sees.same (by simp [noIds, noIdsE_U])⟩) (by simp [flatV, flatL]) ?_
      simp (maxSteps := 400000) (dsimp := false) only [e0, e3, e5, axs, AThen, ABlock, dstsOk, AStep, callsF, AWant, aop, AS.ev, AS.put, upd, AS.bound, abin, aint, aload, astore, cellsAt, AV.cells, alen, elems, AV.int?, FPost, aresL, ares1, pack, afill, splice, Value.oneCell', Nat.reduceLT, Nat.reduceLeDiff, Nat.reduceEqDiff, Nat.reduceAdd, Nat.reduceMul, Nat.reduceSub, Nat.reduceBEq, Int.reduceLE, Int.reduceLT, Int.reduceToNat, Int.reduceNeg, Int.reduceEq, axt, ftK, ft3, pickP, AScope, AAll, pickQ, ftQ, inHeap, SAct.cells, tys]
      refine ACallK.heap _ rfl (cl _ _ kp2) ?_; rintro r' H' n' ⟨rfl, eH, en⟩; obtain rfl := eH.symm; obtain rfl := en.symm; clear eH en; simp (maxSteps := 400000) (dsimp := false) only [e0, e3, e5, U_len, bne_self_eq_false, z0, w1, axs, AThen, ABlock, dstsOk, AStep, callsF, AWant, aop, AS.ev, AS.put, upd, AS.bound, abin, aint, aload, astore, cellsAt, AV.cells, alen, elems, AV.int?, FPost, aresL, ares1, pack, afill, splice, Value.oneCell', Nat.reduceLT, Nat.reduceLeDiff, Nat.reduceEqDiff, Nat.reduceAdd, Nat.reduceMul, Nat.reduceSub, Nat.reduceBEq, Int.reduceLE, Int.reduceLT, Int.reduceToNat, Int.reduceNeg, Int.reduceEq, axt, ftK, ft3, pickP, AScope, AAll, pickQ, ftQ, inHeap, SAct.cells, tys]
      exact ⟨hlt, Nat.lt_of_lt_of_le hlt0 kp2.1, (kp2.2 n hlt0).trans eb, kp.trans kp2⟩
    · have hpos := List.length_pos_iff.2 hx
      obtain ⟨m, hm⟩ : ∃ m : Nat, xs.length = m + 1 := ⟨xs.length - 1, by omega⟩
      have z0 : (xs.length : Int) > 0 := by omega
      have z1 : IntKind.i64.wrap ((xs.length : Int) - 1) = (m : Int) := by rw [IntWalk.i64_in _ ⟨by omega, by omega⟩]; omega
      have z2 : (0 : Int) ≤ (m : Int) := by omega
      have z3 : (m : Int) < xs.length := by omega
      have z4 : ((m : Int)).toNat = m := by omega
      have z5 : (U xs)[m]? = some [.sc (.int .u64 (xs.getLastD 0))] := by
        have := lastD_mem hx
        rw [hm] at this
        exact U_get this
      have z6 : (0 : Int) < xs.length := z0
      have z7 : (U xs)[0]? = some [.sc (.int .u64 (hd0 xs))] := by
        cases xs with
        | nil => exact absurd rfl hx
        | cons y ys => rfl
      rw [decide_eq_false hx, Bool.not_false] at cf
      rw [decide_eq_false hx, Bool.not_false] at cb
      generalize xs.getLastD 0 = q at *
      generalize hd0 xs = y at *
      simp (maxSteps := 400000) (dsimp := false) only [e0, e3, e5, z0, z1, z2, z3, z4, z5, z6, z7, U_len, axs, AThen, ABlock, dstsOk, AStep, callsF, AWant, aop, AS.ev, AS.put, upd, AS.bound, abin, aint, aload, astore, cellsAt, AV.cells, alen, elems, AV.int?, FPost, aresL, ares1, pack, afill, splice, Value.oneCell', Nat.reduceLT, Nat.reduceLeDiff, Nat.reduceEqDiff, Nat.reduceAdd, Nat.reduceMul, Nat.reduceSub, Nat.reduceBEq, Int.reduceLE, Int.reduceLT, Int.reduceToNat, Int.reduceNeg, Int.reduceEq, axt, ftK, ft3, pickP, AScope, AAll, pickQ, ftQ, inHeap, SAct.cells, tys]
      refine ACallK.heap _ rfl (cf) ?_; rintro r' H' n' ⟨rfl, eH, en⟩; obtain rfl := eH.symm; obtain rfl := en.symm; clear eH en; simp (maxSteps := 400000) (dsimp := false) only [e0, e3, e5, axs, AThen, ABlock, dstsOk, AStep, callsF, AWant, aop, AS.ev, AS.put, upd, AS.bound, abin, aint, aload, astore, cellsAt, AV.cells, alen, elems, AV.int?, FPost, aresL, ares1, pack, afill, splice, Value.oneCell', Nat.reduceLT, Nat.reduceLeDiff, Nat.reduceEqDiff, Nat.reduceAdd, Nat.reduceMul, Nat.reduceSub, Nat.reduceBEq, Int.reduceLE, Int.reduceLT, Int.reduceToNat, Int.reduceNeg, Int.reduceEq, axt, ftK, ft3, pickP, AScope, AAll, pickQ, ftQ, inHeap, SAct.cells, tys]
      refine ACallK.heap _ rfl (cb) ?_; rintro r' H' n' ⟨rfl, eH, en⟩; obtain rfl := eH.symm; obtain rfl := en.symm; clear eH en; simp (maxSteps := 400000) (dsimp := false) only [e0, e3, e5, axs, AThen, ABlock, dstsOk, AStep, callsF, AWant, aop, AS.ev, AS.put, upd, AS.bound, abin, aint, aload, astore, cellsAt, AV.cells, alen, elems, AV.int?, FPost, aresL, ares1, pack, afill, splice, Value.oneCell', Nat.reduceLT, Nat.reduceLeDiff, Nat.reduceEqDiff, Nat.reduceAdd, Nat.reduceMul, Nat.reduceSub, Nat.reduceBEq, Int.reduceLE, Int.reduceLT, Int.reduceToNat, Int.reduceNeg, Int.reduceEq, axt, ftK, ft3, pickP, AScope, AAll, pickQ, ftQ, inHeap, SAct.cells, tys]
      refine ACallK.heap _ rfl ck ?_
      rintro v H2 n2 ⟨lv, kp2⟩
      have kp2 : Keeps st.H st.n H2 n2 := kp2
      have lv : Live 34 1 H2 (U xs) v := lv
      simp (maxSteps := 400000) (dsimp := false) only [e0, e3, e5, axs, AThen, ABlock, dstsOk, AStep, callsF, AWant, aop, AS.ev, AS.put, upd, AS.bound, abin, aint, aload, astore, cellsAt, AV.cells, alen, elems, AV.int?, FPost, aresL, ares1, pack, afill, splice, Value.oneCell', Nat.reduceLT, Nat.reduceLeDiff, Nat.reduceEqDiff, Nat.reduceAdd, Nat.reduceMul, Nat.reduceSub, Nat.reduceBEq, Int.reduceLE, Int.reduceLT, Int.reduceToNat, Int.reduceNeg, Int.reduceEq, axt, ftK, ft3, pickP, AScope, AAll, pickQ, ftQ, inHeap, SAct.cells, tys]
      refine ACallK.flat rfl cs (by simp only [SeesL, e0, e3, e5, axs, axt, AS.ev, AS.put, upd, inHeap, Nat.reduceLT, Nat.reduceEqDiff, Nat.reduceAdd, Nat.reduceBEq, SAct.cells]; exact ⟨Live.sees lv (noIdsE_U _), Sees.same (by simp [noIds, noIdsE_U])⟩) (by simp [flatV, flatL]) ?_
      simp (maxSteps := 400000) (dsimp := false) only [e0, e3, e5, axs, AThen, ABlock, dstsOk, AStep, callsF, AWant, aop, AS.ev, AS.put, upd, AS.bound, abin, aint, aload, astore, cellsAt, AV.cells, alen, elems, AV.int?, FPost, aresL, ares1, pack, afill, splice, Value.oneCell', Nat.reduceLT, Nat.reduceLeDiff, Nat.reduceEqDiff, Nat.reduceAdd, Nat.reduceMul, Nat.reduceSub, Nat.reduceBEq, Int.reduceLE, Int.reduceLT, Int.reduceToNat, Int.reduceNeg, Int.reduceEq, axt, ftK, ft3, pickP, AScope, AAll, pickQ, ftQ, inHeap, SAct.cells, tys]
      refine ACallK.heap _ rfl (cl _ _ kp2) ?_; rintro r' H' n' ⟨rfl, eH, en⟩; obtain rfl := eH.symm; obtain rfl := en.symm; clear eH en; simp (maxSteps := 400000) (dsimp := false) only [e0, e3, e5, U_len, bne_self_eq_false, z0, w1, axs, AThen, ABlock, dstsOk, AStep, callsF, AWant, aop, AS.ev, AS.put, upd, AS.bound, abin, aint, aload, astore, cellsAt, AV.cells, alen, elems, AV.int?, FPost, aresL, ares1, pack, afill, splice, Value.oneCell', Nat.reduceLT, Nat.reduceLeDiff, Nat.reduceEqDiff, Nat.reduceAdd, Nat.reduceMul, Nat.reduceSub, Nat.reduceBEq, Int.reduceLE, Int.reduceLT, Int.reduceToNat, Int.reduceNeg, Int.reduceEq, axt, ftK, ft3, pickP, AScope, AAll, pickQ, ftQ, inHeap, SAct.cells, tys]
      exact ⟨hlt, Nat.lt_of_lt_of_le hlt0 kp2.1, (kp2.2 n hlt0).trans eb, kp.trans kp2⟩
  · have hpl : ¬ (p : Int) - 1 < 5 := by omega
    have cT := cStTotal h2
    rw [hc] at cT
    simp (maxSteps := 400000) (dsimp := false) only [e0, e3, e5, hpl, eb, axs, AThen, ABlock, dstsOk, AStep, callsF, AWant, aop, AS.ev, AS.put, upd, AS.bound, abin, aint, aload, astore, cellsAt, AV.cells, alen, elems, AV.int?, FPost, aresL, ares1, pack, afill, splice, Value.oneCell', Nat.reduceLT, Nat.reduceLeDiff, Nat.reduceEqDiff, Nat.reduceAdd, Nat.reduceMul, Nat.reduceSub, Nat.reduceBEq, Int.reduceLE, Int.reduceLT, Int.reduceToNat, Int.reduceNeg, Int.reduceEq, axt, ftK, ft3, pickP, AScope, AAll, pickQ, ftQ, inHeap, SAct.cells, tys]
    refine ADraw.planQR [] [1] [(0, true), (2, true), (1, true), (3, true), (4, true), (5, true)] [(0, 0), (1, 0), (0, 2), (0, 0), (0, 0), (0, 0)] mixed (by kernel_rfl) (by kernel_rfl) ?_
    simp (maxSteps := 400000) (dsimp := false) only [e0, e3, eb, axs, AThen, ABlock, dstsOk, AStep, callsF, AWant, aop, AS.ev, AS.put, upd, AS.bound, abin, aint, aload, astore, cellsAt, AV.cells, alen, elems, AV.int?, FPost, aresL, ares1, pack, afill, splice, Value.oneCell', Nat.reduceLT, Nat.reduceLeDiff, Nat.reduceEqDiff, Nat.reduceAdd, Nat.reduceMul, Nat.reduceSub, Nat.reduceBEq, Int.reduceLE, Int.reduceLT, Int.reduceToNat, Int.reduceNeg, Int.reduceEq, axt, ftK, ft3, pickP, AScope, AAll, pickQ, ftQ, inHeap, SAct.cells, tys]
    refine AQuietK.intro rfl rfl cT (fun _ _ => rfl) ?_
    simp (maxSteps := 400000) (dsimp := false) only [e0, e3, eb, axs, AThen, ABlock, dstsOk, AStep, callsF, AWant, aop, AS.ev, AS.put, upd, AS.bound, abin, aint, aload, astore, cellsAt, AV.cells, alen, elems, AV.int?, FPost, aresL, ares1, pack, afill, splice, Value.oneCell', Nat.reduceLT, Nat.reduceLeDiff, Nat.reduceEqDiff, Nat.reduceAdd, Nat.reduceMul, Nat.reduceSub, Nat.reduceBEq, Int.reduceLE, Int.reduceLT, Int.reduceToNat, Int.reduceNeg, Int.reduceEq, axt, ftK, ft3, pickP, AScope, AAll, pickQ, ftQ, inHeap, SAct.cells, tys]
    refine ACallP.pure rfl (ct) ?_; simp (maxSteps := 400000) (dsimp := false) only [e0, e3, eb, axs, AThen, ABlock, dstsOk, AStep, callsF, AWant, aop, AS.ev, AS.put, upd, AS.bound, abin, aint, aload, astore, cellsAt, AV.cells, alen, elems, AV.int?, FPost, aresL, ares1, pack, afill, splice, Value.oneCell', Nat.reduceLT, Nat.reduceLeDiff, Nat.reduceEqDiff, Nat.reduceAdd, Nat.reduceMul, Nat.reduceSub, Nat.reduceBEq, Int.reduceLE, Int.reduceLT, Int.reduceToNat, Int.reduceNeg, Int.reduceEq, axt, ftK, ft3, pickP, AScope, AAll, pickQ, ftQ, inHeap, SAct.cells, tys]
    exact ⟨_, rfl, rfl, kp⟩
theorem law_StoreActs (c : Int) (w : (Lit.int .u8 c).wf = true) (e : List (List Value)) (f : ∀ x ∈ e, FitK [some .u8, some .i64, some .u64, some .u64, some .i64] x) : PCalls Try.prog 6 [.sc (.int .u8 c), .lst 5 (e.map fun e => e.map .sc)] (.sc (.bool true)) := by
  obtain ⟨l, hl, hf, _⟩ := rows_SA f
  obtain ⟨h0, h1⟩ := wfu8' w
  rw [hl]
  refine PCalls.intro2 Try.func6 rfl rfl Try.ntmps6 Try.results6 (by simp) fun n => ?_; simp (maxSteps := 400000) (dsimp := false) only [axs, AThen, ABlock, dstsOk, AStep, callsF, AWant, aop, AS.ev, AS.put, upd, AS.bound, abin, aint, aload, astore, cellsAt, AV.cells, alen, elems, AV.int?, FPost, aresL, ares1, pack, afill, splice, Value.oneCell', Nat.reduceLT, Nat.reduceLeDiff, Nat.reduceEqDiff, Nat.reduceAdd, Nat.reduceMul, Nat.reduceSub, Nat.reduceBEq, Int.reduceLE, Int.reduceLT, Int.reduceToNat, Int.reduceNeg, Int.reduceEq, axt, ftK, ft3, pickP, AScope, AAll, pickQ, ftQ, inHeap, SAct.cells, tys]
  refine ACallK.strict rfl (awake06) (by simp only [SeesL, SA_len, axs, axt, AS.ev, AS.put, upd, inHeap, Nat.reduceLT, Nat.reduceEqDiff, Nat.reduceAdd, Nat.reduceBEq, SAct.cells]; repeat' (first | exact True.intro | exact Sees.sc | exact Sees.none | ((with_reducible refine Sees.same ?_) <;> simp [noIds, noIdsL, noIdsE, noIdsE_U, noIdsE_UU, noIdsE_EN, noIdsE_LE, noIdsE_TL, noIdsE_U, noIdsE_SA] <;> fail) | (refine Live.sees ?_ ?_ <;> first | assumption | (simp [noIdsE_U, noIdsE_UU, noIdsE_EN, noIdsE_LE, noIdsE_TL, noIdsE_U, noIdsE_SA] <;> fail)) | (refine Sees.obj ?_ ?_ ?_ <;> first | exact ⟨_, _, by assumption, rfl⟩ | (simp [U_len, UU_len, EN_len, LE_len, TL_len, U_len, SA_len] <;> fail) | (simp [noIdsE_U, noIdsE_UU, noIdsE_EN, noIdsE_LE, noIdsE_TL, noIdsE_U, noIdsE_SA] <;> fail) | (simp [U, UU, upd] <;> fail) | (simp [U, UU, upd, neS, *] <;> fail)) | (refine Sees.of_seen 3 ?_ <;> simp [seen, upd, noIdsE, noIdsL, noIds, U, UU, Nat.add_assoc] <;> fail) | refine Sees.agg ?_ | refine And.intro ?_ ?_ | simp only [SeesL])) ?_; simp (maxSteps := 400000) (dsimp := false) only [SA_len, axs, AThen, ABlock, dstsOk, AStep, callsF, AWant, aop, AS.ev, AS.put, upd, AS.bound, abin, aint, aload, astore, cellsAt, AV.cells, alen, elems, AV.int?, FPost, aresL, ares1, pack, afill, splice, Value.oneCell', Nat.reduceLT, Nat.reduceLeDiff, Nat.reduceEqDiff, Nat.reduceAdd, Nat.reduceMul, Nat.reduceSub, Nat.reduceBEq, Int.reduceLE, Int.reduceLT, Int.reduceToNat, Int.reduceNeg, Int.reduceEq, axt, ftK, ft3, pickP, AScope, AAll, pickQ, ftQ, inHeap, SAct.cells, tys]
  by_cases h : l.length ≤ 50
  · have h' : ¬ (l.length : Int) > 50 := by omega
    simp (maxSteps := 400000) (dsimp := false) only [h', axs, AThen, ABlock, dstsOk, AStep, callsF, AWant, aop, AS.ev, AS.put, upd, AS.bound, abin, aint, aload, astore, cellsAt, AV.cells, alen, elems, AV.int?, FPost, aresL, ares1, pack, afill, splice, Value.oneCell', Nat.reduceLT, Nat.reduceLeDiff, Nat.reduceEqDiff, Nat.reduceAdd, Nat.reduceMul, Nat.reduceSub, Nat.reduceBEq, Int.reduceLE, Int.reduceLT, Int.reduceToNat, Int.reduceNeg, Int.reduceEq, axt, ftK, ft3, pickP, AScope, AAll, pickQ, ftQ, inHeap, SAct.cells, tys]
    refine ACallK.heap _ rfl (cRun c h0 h1 l hf h _ _) ?_
    rintro v H1 n1 ⟨S, L, r, a, s, ta, ts, fv, rfl, hst, hown, kp⟩
    clear kp hown
    obtain ⟨b, hmo, tw⟩ := stRun_ok c l hf (by omega)
    have hlen := b.ok (by omega)
    have look : ∀ (H : AH) (n : Nat), n1 ≤ n → (∀ j, j < n1 → H j = H1 j) → StL H n S L r a s ta ts fv (stRun c l).1 := fun H n hn hk => hst.at hn fun j hj => hk j (hst.own_lt hj)
    have cs := fun (H : AH) (n : Nat) (hn : n1 ≤ n) (hk2 : ∀ j, j < n1 → H j = H1 j) => cSame06 (look H n hn hk2) hlen b.cn (stRun c l).1.R.len (stRun c l).2
    unfold SV at *
    simp (maxSteps := 400000) (dsimp := false) only [axs, AThen, ABlock, dstsOk, AStep, callsF, AWant, aop, AS.ev, AS.put, upd, AS.bound, abin, aint, aload, astore, cellsAt, AV.cells, alen, elems, AV.int?, FPost, aresL, ares1, pack, afill, splice, Value.oneCell', Nat.reduceLT, Nat.reduceLeDiff, Nat.reduceEqDiff, Nat.reduceAdd, Nat.reduceMul, Nat.reduceSub, Nat.reduceBEq, Int.reduceLE, Int.reduceLT, Int.reduceToNat, Int.reduceNeg, Int.reduceEq, axt, ftK, ft3, pickP, AScope, AAll, pickQ, ftQ, inHeap, SAct.cells, tys]
    refine ACallK.heap _ rfl (cs _ _ (Nat.le_succ _) (fun j hj => (upd_ne _ _ (by omega)).trans (upd_ne _ _ (by omega)))) ?_
    rintro v H2 n2 ⟨rfl, kp⟩
    simp (maxSteps := 400000) (dsimp := false) only [axs, AThen, ABlock, dstsOk, AStep, callsF, AWant, aop, AS.ev, AS.put, upd, AS.bound, abin, aint, aload, astore, cellsAt, AV.cells, alen, elems, AV.int?, FPost, aresL, ares1, pack, afill, splice, Value.oneCell', Nat.reduceLT, Nat.reduceLeDiff, Nat.reduceEqDiff, Nat.reduceAdd, Nat.reduceMul, Nat.reduceSub, Nat.reduceBEq, Int.reduceLE, Int.reduceLT, Int.reduceToNat, Int.reduceNeg, Int.reduceEq, axt, ftK, ft3, pickP, AScope, AAll, pickQ, ftQ, inHeap, SAct.cells, tys]
    exact ⟨_, rfl, Sees.sc⟩
  · have h' : (l.length : Int) > 50 := by omega
    simp (maxSteps := 400000) (dsimp := false) only [h', axs, AThen, ABlock, dstsOk, AStep, callsF, AWant, aop, AS.ev, AS.put, upd, AS.bound, abin, aint, aload, astore, cellsAt, AV.cells, alen, elems, AV.int?, FPost, aresL, ares1, pack, afill, splice, Value.oneCell', Nat.reduceLT, Nat.reduceLeDiff, Nat.reduceEqDiff, Nat.reduceAdd, Nat.reduceMul, Nat.reduceSub, Nat.reduceBEq, Int.reduceLE, Int.reduceLT, Int.reduceToNat, Int.reduceNeg, Int.reduceEq, axt, ftK, ft3, pickP, AScope, AAll, pickQ, ftQ, inHeap, SAct.cells, tys]
    exact ⟨_, rfl, Sees.sc⟩
end Go.Al
