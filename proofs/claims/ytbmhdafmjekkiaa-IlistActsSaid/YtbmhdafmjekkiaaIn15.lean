/- Lists of places: what a law begins with. Conditions: none. -/
import Derived.Test.YtbmhdafmjekkiaaIn14
set_option linter.unusedVariables false
set_option linter.unusedSimpArgs false
set_option maxRecDepth 20000
set_option maxHeartbeats 1600000
-- axs, AThen, ABlock, dstsOk, AStep, callsF, AWant, aop, AS.ev, AS.put, upd, AS.bound, abin, aint, aload, astore, cellsAt, AV.cells, alen, elems, AV.int?, FPost, aresL, ares1, pack, afill, splice, Value.oneCell', Nat.reduceLT, Nat.reduceLeDiff, Nat.reduceEqDiff, Nat.reduceAdd, Nat.reduceMul, Nat.reduceSub, Nat.reduceBEq, Int.reduceLE, Int.reduceLT, Int.reduceToNat, Int.reduceNeg, Int.reduceEq, axt, ftK, ft3, pickP, AScope, AAll, pickQ, ftQ, inHeap, Nd.cells, RV, tys: Nd.cells, RV
-- NOIDS: noIdsE_I32, noIdsE_ND
-- LENS: I32_len, ND_len
namespace Go.Al
open Go.Proofs
def bNd (k : Nat) : Nd := ⟨10 * k, k, k, 0, 0, 0⟩
def raB : Nat → RA
  | 0 => raNew 4
  | k + 1 => (raSet (raAlloc (raB k)).1 (raAlloc (raB k)).2 (bNd k)).1
theorem raB_ok : ∀ k, RaOk (raB k)
  | 0 => (arNew_of 4).2
  | k + 1 => (arSet_of (arAlloc_of (raB_ok k)).2.1 _ _).2
theorem raB_small : ∀ k, k ≤ 6 → (raB k).len ≤ 100 ∧ (raB k).ever ≤ 100 ∧ (raAlloc (raB k)).1.freed.length ≤ 100 ∧ (raAlloc (raB k)).1.nodes.length ≤ 100 ∧ 0 < (raAlloc (raB k)).2 ∧ (raAlloc (raB k)).2 ≤ 100 ∧ (raB k).freed.length ≤ 100 := by decide
def raQ : RA := (raFree (raB 6) 4).1
theorem raQ_ok : RaOk raQ := (arFree_of (raB_ok 6) 4).2
theorem raQ_eq : raQ.ever = 6 ∧ raQ.freed = [4] ∧ raAt raQ 1 = bNd 0 ∧ raAt raQ 2 = bNd 1 ∧ raAt raQ 3 = bNd 2 ∧ raAt raQ 4 = nd0 ∧ raAt raQ 5 = bNd 4 ∧ raAt raQ 6 = bNd 5 := by decide
theorem ArH.own_lt' {H : AH} {n a s : Nat} {fv : AV} {A : AR} (h : ArH H n a s fv A) {j : Nat} (ho : ArOwn a s fv j) : j < n := by
  rcases ho with rfl | rfl | ⟨m, e⟩
  · exact h.la
  · exact h.ls
  · exact h.lf _ _ e
theorem LsH.side {H : AH} {n L r a s : Nat} {fv : AV} {R : RA} {rows : List Rw} (h : LsH H n L r a s fv R rows) {j : Nat} {x : Option AO} (h1 : j ≠ L) (h2 : j ≠ r) (h3 : ¬ ArOwn a s fv j) : LsH (upd H j x) n L r a s fv R rows :=
  ⟨by rw [upd_ne _ _ (fun e => h1 e.symm)]; exact h.hL, by rw [upd_ne _ _ (fun e => h2 e.symm)]; exact h.hr, h.ar.keep (Nat.le_refl _) fun k _ ho => upd_ne _ _ (fun e => h3 (by rw [← e]; exact ho)), h.lL, h.lr, h.nL, h.nr⟩
theorem cLsBegin (c : Int) (h0 : 0 ≤ c) (h1 : c < 256) (H : AH) (n : Nat) :
    HCalls Try.prog 9 [.sc (.int .u8 c)] H n fun v H' n' => ∃ a s L r fv, v = .tup [.ptr a 4 0 0, .ptr L 2 0 0, LV raQ (List.replicate (lsK (1 + c.tmod 3)) nilS)] ∧ n ≤ n' ∧ (∀ j, j < n → H' j = H j) ∧ LsH H' n' L r a s fv raQ (List.replicate (lsK (1 + c.tmod 3)) r0) := by
  have hnew := arNew_of 4
  refine HCalls.walk Try.func9 rfl rfl Try.ntmps9 Try.results9 (by simp) ?_; simp (maxSteps := 400000) (dsimp := false) only [axs, AThen, ABlock, dstsOk, AStep, callsF, AWant, aop, AS.ev, AS.put, upd, AS.bound, abin, aint, aload, astore, cellsAt, AV.cells, alen, elems, AV.int?, FPost, aresL, ares1, pack, afill, splice, Value.oneCell', Nat.reduceLT, Nat.reduceLeDiff, Nat.reduceEqDiff, Nat.reduceAdd, Nat.reduceMul, Nat.reduceSub, Nat.reduceBEq, Int.reduceLE, Int.reduceLT, Int.reduceToNat, Int.reduceNeg, Int.reduceEq, axt, ftK, ft3, pickP, AScope, AAll, pickQ, ftQ, inHeap, Nd.cells, RV, tys]
  refine ACallK.heap _ rfl (cArNew 4 _ _) ?_; rintro r' H' n' ⟨rfl, eH, en⟩; obtain rfl := eH.symm; obtain rfl := en.symm; clear eH en; simp (maxSteps := 400000) (dsimp := false) only [axs, AThen, ABlock, dstsOk, AStep, callsF, AWant, aop, AS.ev, AS.put, upd, AS.bound, abin, aint, aload, astore, cellsAt, AV.cells, alen, elems, AV.int?, FPost, aresL, ares1, pack, afill, splice, Value.oneCell', Nat.reduceLT, Nat.reduceLeDiff, Nat.reduceEqDiff, Nat.reduceAdd, Nat.reduceMul, Nat.reduceSub, Nat.reduceBEq, Int.reduceLE, Int.reduceLT, Int.reduceToNat, Int.reduceNeg, Int.reduceEq, axt, ftK, ft3, pickP, AScope, AAll, pickQ, ftQ, inHeap, Nd.cells, RV, tys]
  refine ACallK.strict rfl (rArNew 4) (by simp only [SeesL, axs, axt, AS.ev, AS.put, upd, inHeap, Nat.reduceLT, Nat.reduceEqDiff, Nat.reduceAdd, Nat.reduceBEq, Nd.cells, RV]; repeat' (first | exact True.intro | exact Sees.sc | exact Sees.none | ((with_reducible refine Sees.same ?_) <;> simp [noIds, noIdsL, noIdsE, noIdsE_U, noIdsE_UU, noIdsE_I32, noIdsE_ND] <;> fail) | (refine Live.sees ?_ ?_ <;> first | assumption | (simp [noIdsE_U, noIdsE_UU, noIdsE_I32, noIdsE_ND] <;> fail)) | (refine Sees.obj ?_ ?_ ?_ <;> first | exact ⟨_, _, by assumption, rfl⟩ | (simp [U_len, UU_len, I32_len, ND_len] <;> fail) | (simp [noIdsE_U, noIdsE_UU, noIdsE_I32, noIdsE_ND] <;> fail) | (simp [U, UU, upd] <;> fail) | (simp [U, UU, upd, neS, *] <;> fail)) | (refine Sees.of_seen 3 ?_ <;> simp [seen, upd, noIdsE, noIdsL, noIds, U, UU, Nat.add_assoc] <;> fail) | refine Sees.agg ?_ | refine And.intro ?_ ?_ | simp only [SeesL])) ?_; simp (maxSteps := 400000) (dsimp := false) only [axs, AThen, ABlock, dstsOk, AStep, callsF, AWant, aop, AS.ev, AS.put, upd, AS.bound, abin, aint, aload, astore, cellsAt, AV.cells, alen, elems, AV.int?, FPost, aresL, ares1, pack, afill, splice, Value.oneCell', Nat.reduceLT, Nat.reduceLeDiff, Nat.reduceEqDiff, Nat.reduceAdd, Nat.reduceMul, Nat.reduceSub, Nat.reduceBEq, Int.reduceLE, Int.reduceLT, Int.reduceToNat, Int.reduceNeg, Int.reduceEq, axt, ftK, ft3, pickP, AScope, AAll, pickQ, ftQ, inHeap, Nd.cells, RV, tys]
  refine ALoop.upto 6 (fun p t => t.t 0 = .sc (.int .u8 c) ∧ t.t 4 = .ptr n 5 0 0 ∧ t.t 5 = .ptr (n + 1 + 1) 4 0 0 ∧ t.t 6 = .ptr (n + 1 + 1 + 1) 4 0 0 ∧ t.t 7 = .sc (.int .i64 p) ∧ n + 1 + 1 + 1 < t.n ∧ (∀ j, j < n → t.H j = H j) ∧ t.H n = some (.obj 32 5 [[.sc (.int .i64 0), .sc (.int .i64 0), .sc (.slice none 0 0), .sc (.slice none 0 0), .sc (.slice none 0 0)]] false) ∧ t.H (n + 1 + 1 + 1) = some (.obj 29 4 [[.sc (.int .i64 (raB p).len), .sc (.int .i64 (raB p).ever), .lst 1 (I32 (raB p).freed), .lst 6 (ND (raB p).nodes)]] false) ∧ ∃ s fv, ArH t.H t.n (n + 1 + 1) s fv (arnOf (raB p)) ∧ ∀ j, ArOwn (n + 1 + 1) s fv j → n < j ∧ j ≠ n + 1 + 1 + 1) ⟨rfl, rfl, rfl, rfl, rfl, by show n + 1 + 1 + 1 < n + 1 + 1 + 1 + 1; omega, ?_, by simp [upd, neS], by simp [upd, neS]; exact ⟨rfl, rfl, rfl, rfl⟩, ?_⟩ ?_
  · intro j hj
    have : ¬ j = n ∧ ¬ j = n + 1 ∧ ¬ j = n + 1 + 1 ∧ ¬ j = n + 1 + 1 + 1 := by and_intros <;> omega
    simp [upd, this]
  · refine ⟨n + 1, .sc (.slice none 0 0), ?_, ?_⟩
    · show ArH _ _ _ _ _ (arnOf (raNew 4))
      rw [← hnew.1]
      refine (arNew_H 4 (upd H n (some (.obj 32 5 [[.sc (.int .i64 0), .sc (.int .i64 0), .sc (.slice none 0 0), .sc (.slice none 0 0), .sc (.slice none 0 0)]] false))) (n + 1)).keep (by show _ ≤ n + 1 + 1 + 1 + 1; omega) (fun j hj ho => ?_)
      have : ¬ j = n + 1 + 1 + 1 := by omega
      simp [upd, this]
    · rintro j (rfl | rfl | ⟨m, e⟩)
      · omega
      · omega
      · cases e
  · rintro p s hp hb ⟨e0, e4, e5, e6, e7, hlt3, hkH, en, eb, sl, fv, hA, hown⟩
    obtain ⟨g1, g2, g3, g4, g5, g6, g7⟩ := raB_small p hp
    have ok := raB_ok p
    rcases Nat.lt_or_ge p 6 with hlt | hge
    · have hpl : (p : Int) < 6 := by omega
      have w1 : IntKind.i64.wrap (10 * p) = 10 * p := IntWalk.i64_in _ ⟨by omega, by omega⟩
      have w2 : IntKind.i64.wrap (p + 1) = p + 1 := IntWalk.i64_in _ ⟨by omega, by omega⟩
      obtain ⟨a1, a2, a3, a4, a5⟩ := arAlloc_of ok
      have w3 : IntKind.u64.wrap (10 * p) = 10 * p := IntWalk.u64_in _ ⟨by omega, by omega⟩
      have w4 : IntKind.u64.wrap p = p := IntWalk.u64_in _ ⟨by omega, by omega⟩
      have hi : I32ok (raAlloc (raB p)).2 := ⟨by omega, by omega⟩
      simp (maxSteps := 400000) (dsimp := false) only [e0, e4, e5, e6, e7, hpl, axs, AThen, ABlock, dstsOk, AStep, callsF, AWant, aop, AS.ev, AS.put, upd, AS.bound, abin, aint, aload, astore, cellsAt, AV.cells, alen, elems, AV.int?, FPost, aresL, ares1, pack, afill, splice, Value.oneCell', Nat.reduceLT, Nat.reduceLeDiff, Nat.reduceEqDiff, Nat.reduceAdd, Nat.reduceMul, Nat.reduceSub, Nat.reduceBEq, Int.reduceLE, Int.reduceLT, Int.reduceToNat, Int.reduceNeg, Int.reduceEq, axt, ftK, ft3, pickP, AScope, AAll, pickQ, ftQ, inHeap, Nd.cells, RV, tys]
      refine ACallK.heap _ rfl (cRAlloc hA ok (by omega)) ?_
      rintro r H1 n1 ⟨rfl, to1⟩
      have to1 : ArTo s.H s.n (n + 1 + 1) sl fv H1 n1 (arnOf (raAlloc (raB p)).1) := to1
      obtain ⟨hle1, hkeep1, s1, fv1, hA1, hown1⟩ := to1
      have cs := (cRSet hA1 a2 (raAlloc (raB p)).2 hi (bNd p)).mono (R' := fun r H' n' => r = .sc (.bool (raSet (raAlloc (raB p)).1 (raAlloc (raB p)).2 (bNd p)).2) ∧ ArTo H1 n1 (n + 1 + 1) s1 fv1 H' n' (arnOf (raB (p + 1)))) (fun r H' n' ⟨q1, q2, q3⟩ => ⟨q1, by rw [q2, q3]; exact ArTo.setR hA1 a2 _ _⟩)
      have cr := rArSet (raAlloc (raB p)).1 (raAlloc (raB p)).2 (bNd p) hi a2 (by omega) (by omega)
      simp (maxSteps := 400000) (dsimp := false) only [e0, e4, e5, e6, e7, w1, w3, w4, axs, AThen, ABlock, dstsOk, AStep, callsF, AWant, aop, AS.ev, AS.put, upd, AS.bound, abin, aint, aload, astore, cellsAt, AV.cells, alen, elems, AV.int?, FPost, aresL, ares1, pack, afill, splice, Value.oneCell', Nat.reduceLT, Nat.reduceLeDiff, Nat.reduceEqDiff, Nat.reduceAdd, Nat.reduceMul, Nat.reduceSub, Nat.reduceBEq, Int.reduceLE, Int.reduceLT, Int.reduceToNat, Int.reduceNeg, Int.reduceEq, axt, ftK, ft3, pickP, AScope, AAll, pickQ, ftQ, inHeap, Nd.cells, RV, tys]
      refine ACallK.heap _ rfl cs ?_
      rintro r H2 n2 ⟨rfl, to2⟩
      have to2 : ArTo H1 n1 (n + 1 + 1) s1 fv1 H2 n2 (arnOf (raB (p + 1))) := to2
      obtain ⟨hle2, hkeep2, s2, fv2, hA2, hown2⟩ := to2
      have ow1 : ∀ j, ArOwn (n + 1 + 1) s1 fv1 j → n < j ∧ j ≠ n + 1 + 1 + 1 := by
        intro j ho
        rcases hown1 j ho with h | h
        · exact hown j h
        · exact ⟨by omega, by omega⟩
      have ow2 : ∀ j, ArOwn (n + 1 + 1) s2 fv2 j → n < j ∧ j ≠ n + 1 + 1 + 1 ∧ ¬ j = n2 ∧ ¬ j = n2 + 1 := by
        intro j ho
        have h3 := hA2.own_lt' ho
        rcases hown2 j ho with h | h
        · have := ow1 j h
          exact ⟨this.1, this.2, by omega, by omega⟩
        · exact ⟨by omega, by omega, by omega, by omega⟩
      have eb2 := (hkeep2 (n + 1 + 1 + 1) (by omega) (fun ho => (ow1 _ ho).2 rfl)).trans ((hkeep1 (n + 1 + 1 + 1) (by omega) (fun ho => (hown _ ho).2 rfl)).trans eb)
      have en2 := (hkeep2 n (by omega) (fun ho => by have := (ow1 _ ho).1; omega)).trans ((hkeep1 n (by omega) (fun ho => by have := (hown _ ho).1; omega)).trans en)
      have hneq : ¬ n + 1 + 1 + 1 = n2 ∧ ¬ n2 = n + 1 + 1 + 1 ∧ ¬ n = n2 ∧ ¬ n2 = n ∧ ¬ n + 1 + 1 + 1 = n2 + 1 ∧ ¬ n2 + 1 = n + 1 + 1 + 1 ∧ ¬ n = n2 + 1 := by and_intros <;> omega
      simp (maxSteps := 400000) (dsimp := false) only [e0, e4, e5, e6, e7, eb2, axs, AThen, ABlock, dstsOk, AStep, callsF, AWant, aop, AS.ev, AS.put, upd, AS.bound, abin, aint, aload, astore, cellsAt, AV.cells, alen, elems, AV.int?, FPost, aresL, ares1, pack, afill, splice, Value.oneCell', Nat.reduceLT, Nat.reduceLeDiff, Nat.reduceEqDiff, Nat.reduceAdd, Nat.reduceMul, Nat.reduceSub, Nat.reduceBEq, Int.reduceLE, Int.reduceLT, Int.reduceToNat, Int.reduceNeg, Int.reduceEq, axt, ftK, ft3, pickP, AScope, AAll, pickQ, ftQ, inHeap, Nd.cells, RV, tys]
      refine ACallK.strict rfl (rArAlloc (raB p) ok (by omega)) (by simp only [SeesL, e0, e4, e5, e6, e7, w1, w3, w4, eb2, hneq, axs, axt, AS.ev, AS.put, upd, inHeap, Nat.reduceLT, Nat.reduceEqDiff, Nat.reduceAdd, Nat.reduceBEq, Nd.cells, RV]; repeat' (first | exact True.intro | exact Sees.sc | exact Sees.none | ((with_reducible refine Sees.same ?_) <;> simp [noIds, noIdsL, noIdsE, noIdsE_U, noIdsE_UU, noIdsE_I32, noIdsE_ND] <;> fail) | (refine Live.sees ?_ ?_ <;> first | assumption | (simp [noIdsE_U, noIdsE_UU, noIdsE_I32, noIdsE_ND] <;> fail)) | (refine Sees.obj ?_ ?_ ?_ <;> first | exact ⟨_, _, by assumption, rfl⟩ | (simp [U_len, UU_len, I32_len, ND_len] <;> fail) | (simp [noIdsE_U, noIdsE_UU, noIdsE_I32, noIdsE_ND] <;> fail) | (simp [U, UU, upd] <;> fail) | (simp [U, UU, upd, neS, *] <;> fail)) | (refine Sees.of_seen 3 ?_ <;> simp [seen, upd, noIdsE, noIdsL, noIds, U, UU, Nat.add_assoc] <;> fail) | refine Sees.agg ?_ | refine And.intro ?_ ?_ | simp only [SeesL])) ?_; simp (maxSteps := 400000) (dsimp := false) only [e0, e4, e5, e6, e7, w1, w3, w4, eb2, hneq, axs, AThen, ABlock, dstsOk, AStep, callsF, AWant, aop, AS.ev, AS.put, upd, AS.bound, abin, aint, aload, astore, cellsAt, AV.cells, alen, elems, AV.int?, FPost, aresL, ares1, pack, afill, splice, Value.oneCell', Nat.reduceLT, Nat.reduceLeDiff, Nat.reduceEqDiff, Nat.reduceAdd, Nat.reduceMul, Nat.reduceSub, Nat.reduceBEq, Int.reduceLE, Int.reduceLT, Int.reduceToNat, Int.reduceNeg, Int.reduceEq, axt, ftK, ft3, pickP, AScope, AAll, pickQ, ftQ, inHeap, Nd.cells, RV, tys]
      refine ACallK.strict rfl (cr) (by simp only [SeesL, e0, e4, e5, e6, e7, w2, eb2, hneq, axs, axt, AS.ev, AS.put, upd, inHeap, Nat.reduceLT, Nat.reduceEqDiff, Nat.reduceAdd, Nat.reduceBEq, Nd.cells, RV]; repeat' (first | exact True.intro | exact Sees.sc | exact Sees.none | ((with_reducible refine Sees.same ?_) <;> simp [noIds, noIdsL, noIdsE, noIdsE_U, noIdsE_UU, noIdsE_I32, noIdsE_ND] <;> fail) | (refine Live.sees ?_ ?_ <;> first | assumption | (simp [noIdsE_U, noIdsE_UU, noIdsE_I32, noIdsE_ND] <;> fail)) | (refine Sees.obj ?_ ?_ ?_ <;> first | exact ⟨_, _, by assumption, rfl⟩ | (simp [U_len, UU_len, I32_len, ND_len] <;> fail) | (simp [noIdsE_U, noIdsE_UU, noIdsE_I32, noIdsE_ND] <;> fail) | (simp [U, UU, upd] <;> fail) | (simp [U, UU, upd, neS, *] <;> fail)) | (refine Sees.of_seen 3 ?_ <;> simp [seen, upd, noIdsE, noIdsL, noIds, U, UU, Nat.add_assoc] <;> fail) | refine Sees.agg ?_ | refine And.intro ?_ ?_ | simp only [SeesL])) ?_; simp (maxSteps := 400000) (dsimp := false) only [e0, e4, e5, e6, e7, w2, eb2, hneq, axs, AThen, ABlock, dstsOk, AStep, callsF, AWant, aop, AS.ev, AS.put, upd, AS.bound, abin, aint, aload, astore, cellsAt, AV.cells, alen, elems, AV.int?, FPost, aresL, ares1, pack, afill, splice, Value.oneCell', Nat.reduceLT, Nat.reduceLeDiff, Nat.reduceEqDiff, Nat.reduceAdd, Nat.reduceMul, Nat.reduceSub, Nat.reduceBEq, Int.reduceLE, Int.reduceLT, Int.reduceToNat, Int.reduceNeg, Int.reduceEq, axt, ftK, ft3, pickP, AScope, AAll, pickQ, ftQ, inHeap, Nd.cells, RV, tys]
      refine ⟨hlt, by simp, by omega, ?_, en2, rfl, s2, fv2, hA2.keep (by omega) (fun j hj ho => by have := ow2 j ho; simp [upd, this]), fun j ho => ⟨(ow2 j ho).1, (ow2 j ho).2.1⟩⟩
      intro j hj
      have : ¬ j = n + 1 + 1 + 1 ∧ ¬ j = n2 + 1 ∧ ¬ j = n2 := by and_intros <;> omega
      simp only [this, if_false]
      rw [hkeep2 j (by omega) (fun ho => by have := (ow1 _ ho).1; omega), hkeep1 j (by omega) (fun ho => by have := (hown _ ho).1; omega)]
      exact hkH j hj
    · have hpl : ¬ (p : Int) < 6 := by omega
      have hp6 : p = 6 := by omega
      subst hp6
      simp (maxSteps := 400000) (dsimp := false) only [e0, e4, e5, e6, e7, Int.lt_irrefl, hpl, axs, AThen, ABlock, dstsOk, AStep, callsF, AWant, aop, AS.ev, AS.put, upd, AS.bound, abin, aint, aload, astore, cellsAt, AV.cells, alen, elems, AV.int?, FPost, aresL, ares1, pack, afill, splice, Value.oneCell', Nat.reduceLT, Nat.reduceLeDiff, Nat.reduceEqDiff, Nat.reduceAdd, Nat.reduceMul, Nat.reduceSub, Nat.reduceBEq, Int.reduceLE, Int.reduceLT, Int.reduceToNat, Int.reduceNeg, Int.reduceEq, axt, ftK, ft3, pickP, AScope, AAll, pickQ, ftQ, inHeap, Nd.cells, RV, tys]
      refine ACallK.heap _ rfl (cRFree hA ok 4 ⟨by omega, by omega⟩ (by omega)) ?_
      rintro r H1 n1 ⟨rfl, to1⟩
      have to1 : ArTo s.H s.n (n + 1 + 1) sl fv H1 n1 (arnOf raQ) := to1
      obtain ⟨hle1, hkeep1, s1, fv1, hA1, hown1⟩ := to1
      have eb1 := (hkeep1 (n + 1 + 1 + 1) (by omega) (fun ho => (hown _ ho).2 rfl)).trans eb
      have en1 := (hkeep1 n (by omega) (fun ho => by have := (hown _ ho).1; omega)).trans en
      simp (maxSteps := 400000) (dsimp := false) only [e0, e4, e5, e6, e7, eb1, axs, AThen, ABlock, dstsOk, AStep, callsF, AWant, aop, AS.ev, AS.put, upd, AS.bound, abin, aint, aload, astore, cellsAt, AV.cells, alen, elems, AV.int?, FPost, aresL, ares1, pack, afill, splice, Value.oneCell', Nat.reduceLT, Nat.reduceLeDiff, Nat.reduceEqDiff, Nat.reduceAdd, Nat.reduceMul, Nat.reduceSub, Nat.reduceBEq, Int.reduceLE, Int.reduceLT, Int.reduceToNat, Int.reduceNeg, Int.reduceEq, axt, ftK, ft3, pickP, AScope, AAll, pickQ, ftQ, inHeap, Nd.cells, RV, tys]
      refine ACallK.strict rfl (rArFree (raB 6) 4 ⟨by omega, by omega⟩ (by omega)) (by simp only [SeesL, e0, e4, e5, e6, e7, eb1, axs, axt, AS.ev, AS.put, upd, inHeap, Nat.reduceLT, Nat.reduceEqDiff, Nat.reduceAdd, Nat.reduceBEq, Nd.cells, RV]; repeat' (first | exact True.intro | exact Sees.sc | exact Sees.none | ((with_reducible refine Sees.same ?_) <;> simp [noIds, noIdsL, noIdsE, noIdsE_U, noIdsE_UU, noIdsE_I32, noIdsE_ND] <;> fail) | (refine Live.sees ?_ ?_ <;> first | assumption | (simp [noIdsE_U, noIdsE_UU, noIdsE_I32, noIdsE_ND] <;> fail)) | (refine Sees.obj ?_ ?_ ?_ <;> first | exact ⟨_, _, by assumption, rfl⟩ | (simp [U_len, UU_len, I32_len, ND_len] <;> fail) | (simp [noIdsE_U, noIdsE_UU, noIdsE_I32, noIdsE_ND] <;> fail) | (simp [U, UU, upd] <;> fail) | (simp [U, UU, upd, neS, *] <;> fail)) | (refine Sees.of_seen 3 ?_ <;> simp [seen, upd, noIdsE, noIdsL, noIds, U, UU, Nat.add_assoc] <;> fail) | refine Sees.agg ?_ | refine And.intro ?_ ?_ | simp only [SeesL])) ?_; simp (maxSteps := 400000) (dsimp := false) only [e0, e4, e5, e6, e7, eb1, axs, AThen, ABlock, dstsOk, AStep, callsF, AWant, aop, AS.ev, AS.put, upd, AS.bound, abin, aint, aload, astore, cellsAt, AV.cells, alen, elems, AV.int?, FPost, aresL, ares1, pack, afill, splice, Value.oneCell', Nat.reduceLT, Nat.reduceLeDiff, Nat.reduceEqDiff, Nat.reduceAdd, Nat.reduceMul, Nat.reduceSub, Nat.reduceBEq, Int.reduceLE, Int.reduceLT, Int.reduceToNat, Int.reduceNeg, Int.reduceEq, axt, ftK, ft3, pickP, AScope, AAll, pickQ, ftQ, inHeap, Nd.cells, RV, tys]
      have hneq : ¬ n + 1 + 1 + 1 = n1 ∧ ¬ n1 = n + 1 + 1 + 1 ∧ ¬ n = n1 ∧ ¬ n1 = n ∧ ¬ n = n1 + 1 ∧ ¬ n = n1 + 1 + 1 := by and_intros <;> omega
      have w5 : IntKind.i64.wrap c = c := IntWalk.i64_in _ ⟨by omega, by omega⟩
      have w6 : IntKind.i64.wrap (1 + c.tmod 3) = 1 + c.tmod 3 := by
        have := Int.tmod_lt_of_pos c (b := 3) (by omega)
        have := Int.tmod_nonneg 3 h0
        exact IntWalk.i64_in _ ⟨by omega, by omega⟩
      refine ADraw.planQR [] [6] [(0, true), (1, true), (2, true), (3, true), (4, true), (5, true), (7, true), (8, true), (9, true), (10, true), (11, true), (6, true), (12, true), (13, true), (14, true), (15, true)] [(0, 0), (0, 0), (0, 0), (0, 0), (0, 0), (0, 0), (1, 0), (1, 0), (1, 0), (1, 0), (1, 0), (0, 2), (0, 0), (0, 0), (0, 0), (0, 0)] mixed (by kernel_rfl) (by kernel_rfl) ?_
      simp (maxSteps := 400000) (dsimp := false) only [e0, e4, e5, e6, e7, w5, w6, axs, AThen, ABlock, dstsOk, AStep, callsF, AWant, aop, AS.ev, AS.put, upd, AS.bound, abin, aint, aload, astore, cellsAt, AV.cells, alen, elems, AV.int?, FPost, aresL, ares1, pack, afill, splice, Value.oneCell', Nat.reduceLT, Nat.reduceLeDiff, Nat.reduceEqDiff, Nat.reduceAdd, Nat.reduceMul, Nat.reduceSub, Nat.reduceBEq, Int.reduceLE, Int.reduceLT, Int.reduceToNat, Int.reduceNeg, Int.reduceEq, axt, ftK, ft3, pickP, AScope, AAll, pickQ, ftQ, inHeap, Nd.cells, RV, tys]
      refine AQuietK.intro rfl rfl (cLsNew (n + 1 + 1) (1 + c.tmod 3) _ _) (fun id hid => (upd_ne _ _ (Nat.ne_of_lt (Nat.lt_succ_of_lt hid))).trans (upd_ne _ _ (Nat.ne_of_lt hid))) ?_
      simp (maxSteps := 400000) (dsimp := false) only [e0, e4, e5, e6, e7, w5, w6, hneq, axs, AThen, ABlock, dstsOk, AStep, callsF, AWant, aop, AS.ev, AS.put, upd, AS.bound, abin, aint, aload, astore, cellsAt, AV.cells, alen, elems, AV.int?, FPost, aresL, ares1, pack, afill, splice, Value.oneCell', Nat.reduceLT, Nat.reduceLeDiff, Nat.reduceEqDiff, Nat.reduceAdd, Nat.reduceMul, Nat.reduceSub, Nat.reduceBEq, Int.reduceLE, Int.reduceLT, Int.reduceToNat, Int.reduceNeg, Int.reduceEq, axt, ftK, ft3, pickP, AScope, AAll, pickQ, ftQ, inHeap, Nd.cells, RV, tys]
      refine ACallP.pure rfl (rLsNew raQ (1 + c.tmod 3)) ?_; simp (maxSteps := 400000) (dsimp := false) only [e0, e4, e5, e6, e7, w5, w6, hneq, en1, LV, axs, AThen, ABlock, dstsOk, AStep, callsF, AWant, aop, AS.ev, AS.put, upd, AS.bound, abin, aint, aload, astore, cellsAt, AV.cells, alen, elems, AV.int?, FPost, aresL, ares1, pack, afill, splice, Value.oneCell', Nat.reduceLT, Nat.reduceLeDiff, Nat.reduceEqDiff, Nat.reduceAdd, Nat.reduceMul, Nat.reduceSub, Nat.reduceBEq, Int.reduceLE, Int.reduceLT, Int.reduceToNat, Int.reduceNeg, Int.reduceEq, axt, ftK, ft3, pickP, AScope, AAll, pickQ, ftQ, inHeap, Nd.cells, RV, tys]
      refine ⟨_, rfl, n + 1 + 1, s1, n1 + 1 + 1, n1 + 1, fv1, rfl, by omega, ?_, ?_⟩
      · intro j hj
        have : ¬ j = n ∧ ¬ j = n1 + 1 + 1 ∧ ¬ j = n1 + 1 ∧ ¬ j = n1 := by and_intros <;> omega
        simp only [this, if_false]
        rw [hkeep1 j (by omega) (fun ho => by have := (hown _ ho).1; omega)]
        exact hkH j hj
      · refine (newLs (hA1.keep (Nat.le_succ n1) (fun j hj ho => ?_)) (lsK (1 + c.tmod 3))).side (by omega) (by omega) (fun ho => ?_)
        · rw [upd_ne _ _ (by omega), upd_ne _ _ (by omega)]
        · rcases hown1 n ho with h | h
          · have := (hown _ h).1; omega
          · omega
end Go.Al
