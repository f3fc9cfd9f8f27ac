/- Numbers by keys, in slots, by the program: how a number is put. Conditions: the numbers fit their kinds. -/
import Derived.Test.YtdebjhjnpomlmaaHx6
set_option linter.unusedVariables false
set_option linter.unusedSimpArgs false
set_option maxRecDepth 20000
set_option maxHeartbeats 1600000
namespace Go.Al
open Go.Proofs
theorem HtH.many {H : AH} {n a s : Nat} {T : Tb} {m : Int} (h : HtH H n a s T m) (m' : Int) : HtH (upd H a (some (.obj 106 2 [[.sl s 3 0 T.length, .sc (.int .i64 m')]] false))) n a s T m' :=
  ⟨upd_same _ _ _, by rw [upd_ne _ _ (fun e => h.ne e.symm)]; exact h.hs, h.la, h.ls⟩
/-- What becomes of a table's objects. -/
structure HtTo (H : AH) (n a s : Nat) (H' : AH) (n' : Nat) (T' : Tb) : Prop where
  le : n ≤ n'
  keep : ∀ j, j < n → j ≠ a → j ≠ s → H' j = H j
  at_ : ∃ s', HtH H' n' a s' T' (cnt T') ∧ (s' = s ∨ n ≤ s')
theorem HOk.pw {T : Tb} (h : HOk T) : Pw T.length := h.pow
theorem pw_two {N : Nat} (h : Pw N) (hs : N ≤ 524288) : Pw (2 * N) := by
  obtain ⟨p, h1, h2, rfl⟩ := h
  refine ⟨p + 1, by omega, ?_, by rw [Nat.pow_succ]; omega⟩
  have : ¬ 20 ≤ p := by
    intro hp
    have : 2 ^ 20 ≤ 2 ^ p := Nat.pow_le_pow_right (by omega) hp
    have e : (2 : Nat) ^ 20 = 1048576 := by decide
    omega
  omega
theorem cHtPut {H : AH} {n a s : Nat} {T : Tb} (h : HtH H n a s T (cnt T)) (ok : HOk T) (hsm : T.length ≤ 524288) {k : Int} (hk : Key k) (x : Int) :
    HCalls Try.prog 75 [.ptr a 2 0 0, .sc (.int .u64 k), .sc (.int .i32 x)] H n fun r H' n' => r = .tup [] ∧ HtTo H n a s H' n' (hPut T k x) := by
  have ha := h.ha
  have hs := h.hs
  have la := h.la
  have ls := h.ls
  have hne := h.ne
  have hne2 : ¬ a = s ∧ ¬ s = a := ⟨hne, fun e => hne e.symm⟩
  have hp := ok.pw
  have hl := hp.le
  have hq := ok.find k
  have hcl := cnt_le T
  obtain ⟨g1, g2, g3, g4, g5⟩ := putT_all ok hsm k
  obtain ⟨p1, p2, p3, p4, p5⟩ := put_all ok hsm hk.1 hk.2 x
  have r0 : (0 : Int) ≤ (hF T k : Int) := by omega
  have r1 : (hF T k : Int) < T.length := by have := hq.lt; omega
  have hg := TL_get hq.lt
  have hset := TL_set T (hF T k) ⟨k, x, true⟩
  have w1 : IntKind.i64.wrap ((cnt T : Int) + 1) = (cnt T : Int) + 1 := wrap_in (by omega) (by omega)
  have w2 : IntKind.i64.wrap (4 * ((cnt T : Int) + 1)) = 4 * ((cnt T : Int) + 1) := wrap_in (by omega) (by omega)
  have w3 : IntKind.i64.wrap (3 * (T.length : Int)) = 3 * (T.length : Int) := wrap_in (by omega) (by omega)
  have w2' : IntKind.i64.wrap (((cnt T : Int) + 1) * 4) = 4 * ((cnt T : Int) + 1) := by rw [wrap_in (by omega) (by omega)]; omega
  have w3' : IntKind.i64.wrap ((T.length : Int) * 3) = 3 * (T.length : Int) := by rw [wrap_in (by omega) (by omega)]; omega
  have e0 : ∀ j, fdH H n T (hm T.length k) j a = some (.obj 106 2 [[.sl s 3 0 T.length, .sc (.int .i64 (cnt T))]] false) := fun j => by rw [fdH_old _ _ la]; exact ha
  have e1 : ∀ j, fdH H n T (hm T.length k) j s = some (.obj 130 3 (TL T) false) := fun j => by rw [fdH_old _ _ ls]; exact hs
  refine HCalls.walk Try.func75 rfl rfl Try.ntmps75 Try.results75 (by simp) ?_; simp (maxSteps := 400000) (dsimp := false) only [ha, axs, AThen, ABlock, dstsOk, AStep, callsF, AWant, aop, AS.ev, AS.put, upd, AS.bound, abin, aint, aload, astore, cellsAt, AV.cells, alen, elems, AV.int?, FPost, aresL, ares1, pack, afill, splice, Value.oneCell', Nat.reduceLT, Nat.reduceLeDiff, Nat.reduceEqDiff, Nat.reduceAdd, Nat.reduceMul, Nat.reduceSub, Nat.reduceBEq, Int.reduceLE, Int.reduceLT, Int.reduceToNat, Int.reduceNeg, Int.reduceEq, axt, ftK, ft3, pickP, AScope, AAll, pickQ, ftQ, inHeap, tys]
  refine ACallK.heap _ rfl (cFind h hp hk hq) ?_; rintro r' H' n' ⟨rfl, eH, en⟩; obtain rfl := eH.symm; obtain rfl := en.symm; clear eH en; simp (maxSteps := 400000) (dsimp := false) only [e0, e1, r0, r1, hg, hne2, axs, AThen, ABlock, dstsOk, AStep, callsF, AWant, aop, AS.ev, AS.put, upd, AS.bound, abin, aint, aload, astore, cellsAt, AV.cells, alen, elems, AV.int?, FPost, aresL, ares1, pack, afill, splice, Value.oneCell', Nat.reduceLT, Nat.reduceLeDiff, Nat.reduceEqDiff, Nat.reduceAdd, Nat.reduceMul, Nat.reduceSub, Nat.reduceBEq, Int.reduceLE, Int.reduceLT, Int.reduceToNat, Int.reduceNeg, Int.reduceEq, axt, ftK, ft3, pickP, AScope, AAll, pickQ, ftQ, inHeap, tys]
  cases hf : (sl T (hF T k)).full with
  | true =>
    have hT : putT T k = T := by unfold putT; rw [if_pos hf]
    have hP : hPut T k x = T.set (hF T k) ⟨k, x, true⟩ := by unfold hPut; rw [hT]
    rw [hf] at hg
    simp (maxSteps := 400000) (dsimp := false) only [e0, e1, r0, r1, hg, hset, hne2, axs, AThen, ABlock, dstsOk, AStep, callsF, AWant, aop, AS.ev, AS.put, upd, AS.bound, abin, aint, aload, astore, cellsAt, AV.cells, alen, elems, AV.int?, FPost, aresL, ares1, pack, afill, splice, Value.oneCell', Nat.reduceLT, Nat.reduceLeDiff, Nat.reduceEqDiff, Nat.reduceAdd, Nat.reduceMul, Nat.reduceSub, Nat.reduceBEq, Int.reduceLE, Int.reduceLT, Int.reduceToNat, Int.reduceNeg, Int.reduceEq, axt, ftK, ft3, pickP, AScope, AAll, pickQ, ftQ, inHeap, tys]
    rw [hf, if_pos rfl] at p3
    have h1 := ((h.keeps (fdH_keeps H n T (hm T.length k) (D T.length (hm T.length k) (hF T k) + 1))).setAt (hF T k) ⟨k, x, true⟩)
    rw [← hP] at h1 ⊢
    rw [← p3] at h1
    refine ⟨_, rfl, rfl, by omega, fun j hj hja hjs => ?_, s, h1, .inl rfl⟩
    rw [upd_ne _ _ hjs, fdH_old _ _ hj]
  | false =>
    rw [hf] at hg
    simp (maxSteps := 400000) (dsimp := false) only [e0, e1, r0, r1, hg, hne2, w1, axs, AThen, ABlock, dstsOk, AStep, callsF, AWant, aop, AS.ev, AS.put, upd, AS.bound, abin, aint, aload, astore, cellsAt, AV.cells, alen, elems, AV.int?, FPost, aresL, ares1, pack, afill, splice, Value.oneCell', Nat.reduceLT, Nat.reduceLeDiff, Nat.reduceEqDiff, Nat.reduceAdd, Nat.reduceMul, Nat.reduceSub, Nat.reduceBEq, Int.reduceLE, Int.reduceLT, Int.reduceToNat, Int.reduceNeg, Int.reduceEq, axt, ftK, ft3, pickP, AScope, AAll, pickQ, ftQ, inHeap, tys]
    refine ADraw.planR [] [(0, true), (1, true), (2, true), (3, true), (4, true), (5, true), (6, true), (7, true), (8, true), (9, true), (10, true), (11, true)] [(0, false), (0, false), (0, false), (0, false), (0, false), (0, false), (0, false), (0, false), (0, false), (0, false), (0, false), (0, false)] mixed (by kernel_rfl) (by kernel_rfl) ?_
    simp (maxSteps := 400000) (dsimp := false) only [e0, e1, hne2, w2, w3, w2', w3', axs, AThen, ABlock, dstsOk, AStep, callsF, AWant, aop, AS.ev, AS.put, upd, AS.bound, abin, aint, aload, astore, cellsAt, AV.cells, alen, elems, AV.int?, FPost, aresL, ares1, pack, afill, splice, Value.oneCell', Nat.reduceLT, Nat.reduceLeDiff, Nat.reduceEqDiff, Nat.reduceAdd, Nat.reduceMul, Nat.reduceSub, Nat.reduceBEq, Int.reduceLE, Int.reduceLT, Int.reduceToNat, Int.reduceNeg, Int.reduceEq, axt, ftK, ft3, pickP, AScope, AAll, pickQ, ftQ, inHeap, tys]
    rw [hf] at p3
    simp only [Bool.false_eq_true, if_false] at p3
    have hm1 : ((cnt T : Int) + 1) = ((cnt (hPut T k x) : Nat) : Int) := by rw [p3]; omega
    have h1 := (h.keeps (fdH_keeps H n T (hm T.length k) (D T.length (hm T.length k) (hF T k) + 1))).many ((cnt T : Int) + 1)
    by_cases hb : 4 * cnt T + 4 > 3 * T.length
    · have hb' : 4 * ((cnt T : Int) + 1) > 3 * (T.length : Int) := by omega
      have hT : putT T k = rehash T := by unfold putT big; rw [if_neg (by rw [hf]; simp), if_pos hb]
      have hP : hPut T k x = (rehash T).set (hF (rehash T) k) ⟨k, x, true⟩ := by unfold hPut; rw [hT]
      rw [hT] at g1
      have hq2 := g1.find k
      have hp2 := g1.pw
      simp (maxSteps := 400000) (dsimp := false) only [hb', axs, AThen, ABlock, dstsOk, AStep, callsF, AWant, aop, AS.ev, AS.put, upd, AS.bound, abin, aint, aload, astore, cellsAt, AV.cells, alen, elems, AV.int?, FPost, aresL, ares1, pack, afill, splice, Value.oneCell', Nat.reduceLT, Nat.reduceLeDiff, Nat.reduceEqDiff, Nat.reduceAdd, Nat.reduceMul, Nat.reduceSub, Nat.reduceBEq, Int.reduceLE, Int.reduceLT, Int.reduceToNat, Int.reduceNeg, Int.reduceEq, axt, ftK, ft3, pickP, AScope, AAll, pickQ, ftQ, inHeap, tys]
      refine ACallK.heap _ rfl (cGrow h1 hp (pw_two hp hsm) ok.inv ok.keys) ?_
      rintro r' H' n' ⟨rfl, hG, hn, hkp⟩
      have hn : n + (D T.length (hm T.length k) (hF T k) + 1) ≤ n' := hn
      have hG : HtH H' n' a (n + (D T.length (hm T.length k) (hF T k) + 1)) (rehash T) ((cnt T : Int) + 1) := hG
      have hkp : ∀ j, j < n + (D T.length (hm T.length k) (hF T k) + 1) → j ≠ a → H' j = upd (fdH H n T (hm T.length k) (D T.length (hm T.length k) (hF T k) + 1)) a (some (.obj 106 2 [[.sl s 3 0 T.length, .sc (.int .i64 ((cnt T : Int) + 1))]] false)) j := hkp
      have ga := hG.ha
      have gs := hG.hs
      have ga2 := hG.la
      have gs2 := hG.ls
      have gne := hG.ne
      have e2 : ∀ j, fdH H' n' (rehash T) (hm (rehash T).length k) j a = H' a := fun j => fdH_old _ _ ga2
      have e3 : ∀ j, fdH H' n' (rehash T) (hm (rehash T).length k) j (n + (D T.length (hm T.length k) (hF T k) + 1)) = H' (n + (D T.length (hm T.length k) (hF T k) + 1)) := fun j => fdH_old _ _ gs2
      have hg2 := TL_get hq2.lt
      have t0 : (0 : Int) ≤ (hF (rehash T) k : Int) := by omega
      have t1 : (hF (rehash T) k : Int) < (rehash T).length := by have := hq2.lt; omega
      have hset2 := TL_set (rehash T) (hF (rehash T) k) ⟨k, x, true⟩
      simp (maxSteps := 400000) (dsimp := false) only [axs, AThen, ABlock, dstsOk, AStep, callsF, AWant, aop, AS.ev, AS.put, upd, AS.bound, abin, aint, aload, astore, cellsAt, AV.cells, alen, elems, AV.int?, FPost, aresL, ares1, pack, afill, splice, Value.oneCell', Nat.reduceLT, Nat.reduceLeDiff, Nat.reduceEqDiff, Nat.reduceAdd, Nat.reduceMul, Nat.reduceSub, Nat.reduceBEq, Int.reduceLE, Int.reduceLT, Int.reduceToNat, Int.reduceNeg, Int.reduceEq, axt, ftK, ft3, pickP, AScope, AAll, pickQ, ftQ, inHeap, tys]
      refine ACallK.heap _ rfl (cFind hG hp2 hk hq2) ?_; rintro r' H' n' ⟨rfl, eH, en⟩; obtain rfl := eH.symm; obtain rfl := en.symm; clear eH en; simp (maxSteps := 400000) (dsimp := false) only [e2, e3, ga, gs, t0, t1, hg2, hset2, axs, AThen, ABlock, dstsOk, AStep, callsF, AWant, aop, AS.ev, AS.put, upd, AS.bound, abin, aint, aload, astore, cellsAt, AV.cells, alen, elems, AV.int?, FPost, aresL, ares1, pack, afill, splice, Value.oneCell', Nat.reduceLT, Nat.reduceLeDiff, Nat.reduceEqDiff, Nat.reduceAdd, Nat.reduceMul, Nat.reduceSub, Nat.reduceBEq, Int.reduceLE, Int.reduceLT, Int.reduceToNat, Int.reduceNeg, Int.reduceEq, axt, ftK, ft3, pickP, AScope, AAll, pickQ, ftQ, inHeap, tys]
      have h2 := ((hG.keeps (fdH_keeps H' n' (rehash T) (hm (rehash T).length k) (D (rehash T).length (hm (rehash T).length k) (hF (rehash T) k) + 1))).setAt (hF (rehash T) k) ⟨k, x, true⟩)
      rw [← hP, hm1] at h2
      rw [← hP]
      refine ⟨_, rfl, rfl, by omega, fun j hj hja hjs => ?_, _, h2, .inr (by omega)⟩
      rw [upd_ne _ _ (by omega), fdH_old _ _ (by omega), hkp j (by omega) hja, upd_ne _ _ hja, fdH_old _ _ hj]
    · have hb' : ¬ 4 * ((cnt T : Int) + 1) > 3 * (T.length : Int) := by omega
      have hT : putT T k = T := by unfold putT big; rw [if_neg (by rw [hf]; simp), if_neg hb]
      have hP : hPut T k x = T.set (hF T k) ⟨k, x, true⟩ := by unfold hPut; rw [hT]
      simp (maxSteps := 400000) (dsimp := false) only [hb', hne2, e0, e1, r0, r1, hg, hset, axs, AThen, ABlock, dstsOk, AStep, callsF, AWant, aop, AS.ev, AS.put, upd, AS.bound, abin, aint, aload, astore, cellsAt, AV.cells, alen, elems, AV.int?, FPost, aresL, ares1, pack, afill, splice, Value.oneCell', Nat.reduceLT, Nat.reduceLeDiff, Nat.reduceEqDiff, Nat.reduceAdd, Nat.reduceMul, Nat.reduceSub, Nat.reduceBEq, Int.reduceLE, Int.reduceLT, Int.reduceToNat, Int.reduceNeg, Int.reduceEq, axt, ftK, ft3, pickP, AScope, AAll, pickQ, ftQ, inHeap, tys]
      have h2 := h1.setAt (hF T k) ⟨k, x, true⟩
      rw [← hP, hm1] at h2
      rw [← hP, hm1]
      refine ⟨_, rfl, rfl, by omega, fun j hj hja hjs => ?_, s, h2, .inl rfl⟩
      rw [upd_ne _ _ hjs, upd_ne _ _ hja, fdH_old _ _ hj]
end Go.Al
