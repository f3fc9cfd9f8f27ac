/- Numbers by keys, in slots, by the program: how a key is taken out. Conditions: the numbers fit their kinds. -/
import Derived.Test.YtdebjhjnpomlmaaHx7
set_option linter.unusedVariables false
set_option linter.unusedSimpArgs false
set_option maxRecDepth 20000
set_option maxHeartbeats 1600000
namespace Go.Al
open Go.Proofs
theorem cFits {H : AH} {n a s : Nat} {U : Tb} {m : Int} (h : HtH H n a s U m) (hp : Pw U.length) {b cN g r hole : Nat} (hb : H b = some (.obj 68 1 [[.ptr a 2 0 0]] false)) (hN : H cN = some (.obj 3 1 [[.sc (.int .i64 U.length)]] false)) (hg : H g = some (.obj 3 1 [[.sc (.int .i64 hole)]] false)) (hr : r < U.length) (hh : hole < U.length) (hk : Key (sl U r).key) :
    HCalls Try.prog 81 [.sc (.int .i64 r), .ptr b 1 0 0, .ptr cN 1 0 0, .ptr g 1 0 0] H n fun v H' n' => v = .sc (.bool (decide (D U.length hole r ≤ D U.length (hm U.length (sl U r).key) r))) ∧ H' = H ∧ n' = n := by
  have ha := h.ha
  have hs := h.hs
  have hl := hp.le
  have e := hm_home hp hk
  have hhm : hm U.length (sl U r).key < U.length := hm_lt (by omega) _
  have e1 := apart_D hp hhm hr
  have e2 := apart_D hp hh hr
  have r0 : (0 : Int) ≤ r := by omega
  have r1 : (r : Int) < U.length := by omega
  have hgt := TL_get hr
  have hge : ∀ x y : Nat, ((x : Int) ≥ (y : Int)) = (y ≤ x) := fun x y => propext ⟨fun h => by omega, fun h => by omega⟩
  refine HCalls.walk Try.func81 rfl rfl Try.ntmps81 Try.results81 (by simp) ?_; simp (maxSteps := 400000) (dsimp := false) only [axs, AThen, ABlock, dstsOk, AStep, callsF, AWant, aop, AS.ev, AS.put, upd, AS.bound, abin, aint, aload, astore, cellsAt, AV.cells, alen, elems, AV.int?, FPost, aresL, ares1, pack, afill, splice, Value.oneCell', Nat.reduceLT, Nat.reduceLeDiff, Nat.reduceEqDiff, Nat.reduceAdd, Nat.reduceMul, Nat.reduceSub, Nat.reduceBEq, Int.reduceLE, Int.reduceLT, Int.reduceToNat, Int.reduceNeg, Int.reduceEq, axt, ftK, ft3, pickP, AScope, AAll, pickQ, ftQ, inHeap, tys]
  refine ADraw.planR [] [(0, true), (1, true), (2, true), (3, true), (4, true), (5, true), (6, true), (7, true), (8, true), (9, true), (10, true)] [(0, false), (0, false), (0, false), (0, false), (0, false), (0, false), (0, false), (0, false), (0, false), (0, false), (0, false)] mixed (by kernel_rfl) (by kernel_rfl) ?_
  simp (maxSteps := 400000) (dsimp := false) only [ha, hs, hb, hN, hg, r0, r1, hgt, axs, AThen, ABlock, dstsOk, AStep, callsF, AWant, aop, AS.ev, AS.put, upd, AS.bound, abin, aint, aload, astore, cellsAt, AV.cells, alen, elems, AV.int?, FPost, aresL, ares1, pack, afill, splice, Value.oneCell', Nat.reduceLT, Nat.reduceLeDiff, Nat.reduceEqDiff, Nat.reduceAdd, Nat.reduceMul, Nat.reduceSub, Nat.reduceBEq, Int.reduceLE, Int.reduceLT, Int.reduceToNat, Int.reduceNeg, Int.reduceEq, axt, ftK, ft3, pickP, AScope, AAll, pickQ, ftQ, inHeap, tys]
  refine ACallP.pure rfl (f13 _ _) ?_; simp (maxSteps := 400000) (dsimp := false) only [e, axs, AThen, ABlock, dstsOk, AStep, callsF, AWant, aop, AS.ev, AS.put, upd, AS.bound, abin, aint, aload, astore, cellsAt, AV.cells, alen, elems, AV.int?, FPost, aresL, ares1, pack, afill, splice, Value.oneCell', Nat.reduceLT, Nat.reduceLeDiff, Nat.reduceEqDiff, Nat.reduceAdd, Nat.reduceMul, Nat.reduceSub, Nat.reduceBEq, Int.reduceLE, Int.reduceLT, Int.reduceToNat, Int.reduceNeg, Int.reduceEq, axt, ftK, ft3, pickP, AScope, AAll, pickQ, ftQ, inHeap, tys]
  refine ADraw.planR [] [(0, true), (1, true), (2, true), (3, true), (4, true), (5, true), (6, true), (7, true), (8, true), (9, true)] [(0, false), (0, false), (0, false), (0, false), (0, false), (0, false), (0, false), (0, false), (0, false), (0, false)] mixed (by kernel_rfl) (by kernel_rfl) ?_
  simp (maxSteps := 400000) (dsimp := false) only [hN, hg, axs, AThen, ABlock, dstsOk, AStep, callsF, AWant, aop, AS.ev, AS.put, upd, AS.bound, abin, aint, aload, astore, cellsAt, AV.cells, alen, elems, AV.int?, FPost, aresL, ares1, pack, afill, splice, Value.oneCell', Nat.reduceLT, Nat.reduceLeDiff, Nat.reduceEqDiff, Nat.reduceAdd, Nat.reduceMul, Nat.reduceSub, Nat.reduceBEq, Int.reduceLE, Int.reduceLT, Int.reduceToNat, Int.reduceNeg, Int.reduceEq, axt, ftK, ft3, pickP, AScope, AAll, pickQ, ftQ, inHeap, tys]
  refine ACallP.pure rfl (f15 _ _ _) ?_; simp (maxSteps := 400000) (dsimp := false) only [e1, hN, hg, axs, AThen, ABlock, dstsOk, AStep, callsF, AWant, aop, AS.ev, AS.put, upd, AS.bound, abin, aint, aload, astore, cellsAt, AV.cells, alen, elems, AV.int?, FPost, aresL, ares1, pack, afill, splice, Value.oneCell', Nat.reduceLT, Nat.reduceLeDiff, Nat.reduceEqDiff, Nat.reduceAdd, Nat.reduceMul, Nat.reduceSub, Nat.reduceBEq, Int.reduceLE, Int.reduceLT, Int.reduceToNat, Int.reduceNeg, Int.reduceEq, axt, ftK, ft3, pickP, AScope, AAll, pickQ, ftQ, inHeap, tys]
  refine ACallP.pure rfl (f15 _ _ _) ?_; simp (maxSteps := 400000) (dsimp := false) only [e2, hge, axs, AThen, ABlock, dstsOk, AStep, callsF, AWant, aop, AS.ev, AS.put, upd, AS.bound, abin, aint, aload, astore, cellsAt, AV.cells, alen, elems, AV.int?, FPost, aresL, ares1, pack, afill, splice, Value.oneCell', Nat.reduceLT, Nat.reduceLeDiff, Nat.reduceEqDiff, Nat.reduceAdd, Nat.reduceMul, Nat.reduceSub, Nat.reduceBEq, Int.reduceLE, Int.reduceLT, Int.reduceToNat, Int.reduceNeg, Int.reduceEq, axt, ftK, ft3, pickP, AScope, AAll, pickQ, ftQ, inHeap, tys]
  exact ⟨_, rfl, rfl⟩
theorem HtH.other {H : AH} {n a s : Nat} {T : Tb} {m : Int} (h : HtH H n a s T m) {i : Nat} {x : Option AO} (h1 : a ≠ i) (h2 : s ≠ i) : HtH (upd H i x) n a s T m :=
  ⟨by rw [upd_ne _ _ h1]; exact h.ha, by rw [upd_ne _ _ h2]; exact h.hs, h.la, h.ls⟩
theorem cHtDelete {H : AH} {n a s : Nat} {T : Tb} (h : HtH H n a s T (cnt T)) (ok : HOk T) {k : Int} (hk : Key k) :
    HCalls Try.prog 60 [.ptr a 2 0 0, .sc (.int .u64 k)] H n fun r H' n' => r = .sc (.bool (hDel T k).2) ∧ HtTo H n a s H' n' (hDel T k).1 := by
  have ha := h.ha
  have hs := h.hs
  have la := h.la
  have ls := h.ls
  have hne := h.ne
  have hne2 : ¬ a = s ∧ ¬ s = a := ⟨hne, fun e => hne e.symm⟩
  have hp := ok.pw
  have hl := hp.le
  have hq := ok.find k
  have hcl := cnt_le T
  obtain ⟨p1, p2, p3, p4⟩ := del_all ok k
  have r0 : (0 : Int) ≤ (hF T k : Int) := by omega
  have r1 : (hF T k : Int) < T.length := by have := hq.lt; omega
  have hg := TL_get hq.lt
  have h1 := h.new (x := some (.obj 68 1 [[.ptr a 2 0 0]] false))
  have nea : ¬ a = n ∧ ¬ n = a ∧ ¬ s = n ∧ ¬ n = s := by and_intros <;> omega
  have e0 : ∀ j, fdH (upd H n (some (.obj 68 1 [[.ptr a 2 0 0]] false))) (n + 1) T (hm T.length k) j a = some (.obj 106 2 [[.sl s 3 0 T.length, .sc (.int .i64 (cnt T))]] false) := fun j => by rw [fdH_old _ _ (by omega), upd_ne _ _ (by omega)]; exact ha
  have e1 : ∀ j, fdH (upd H n (some (.obj 68 1 [[.ptr a 2 0 0]] false))) (n + 1) T (hm T.length k) j s = some (.obj 130 3 (TL T) false) := fun j => by rw [fdH_old _ _ (by omega), upd_ne _ _ (by omega)]; exact hs
  have e2 : ∀ j, fdH (upd H n (some (.obj 68 1 [[.ptr a 2 0 0]] false))) (n + 1) T (hm T.length k) j n = some (.obj 68 1 [[.ptr a 2 0 0]] false) := fun j => by rw [fdH_old _ _ (by omega), upd_same]
  refine HCalls.walk Try.func60 rfl rfl Try.ntmps60 Try.results60 (by simp) ?_; simp (maxSteps := 400000) (dsimp := false) only [axs, AThen, ABlock, dstsOk, AStep, callsF, AWant, aop, AS.ev, AS.put, upd, AS.bound, abin, aint, aload, astore, cellsAt, AV.cells, alen, elems, AV.int?, FPost, aresL, ares1, pack, afill, splice, Value.oneCell', Nat.reduceLT, Nat.reduceLeDiff, Nat.reduceEqDiff, Nat.reduceAdd, Nat.reduceMul, Nat.reduceSub, Nat.reduceBEq, Int.reduceLE, Int.reduceLT, Int.reduceToNat, Int.reduceNeg, Int.reduceEq, axt, ftK, ft3, pickP, AScope, AAll, pickQ, ftQ, inHeap, tys]
  refine ACallK.heap _ rfl (cFind h1 hp hk hq) ?_; rintro r' H' n' ⟨rfl, eH, en⟩; obtain rfl := eH.symm; obtain rfl := en.symm; clear eH en; simp (maxSteps := 400000) (dsimp := false) only [e0, e1, e2, axs, AThen, ABlock, dstsOk, AStep, callsF, AWant, aop, AS.ev, AS.put, upd, AS.bound, abin, aint, aload, astore, cellsAt, AV.cells, alen, elems, AV.int?, FPost, aresL, ares1, pack, afill, splice, Value.oneCell', Nat.reduceLT, Nat.reduceLeDiff, Nat.reduceEqDiff, Nat.reduceAdd, Nat.reduceMul, Nat.reduceSub, Nat.reduceBEq, Int.reduceLE, Int.reduceLT, Int.reduceToNat, Int.reduceNeg, Int.reduceEq, axt, ftK, ft3, pickP, AScope, AAll, pickQ, ftQ, inHeap, tys]
  have h2 := h1.keeps (fdH_keeps _ _ T (hm T.length k) (D T.length (hm T.length k) (hF T k) + 1))
  have hn1 : n + 1 ≤ n + 1 + (D T.length (hm T.length k) (hF T k) + 1) := by omega
  have old : ∀ j, j < n → fdH (upd H n (some (.obj 68 1 [[.ptr a 2 0 0]] false))) (n + 1) T (hm T.length k) (D T.length (hm T.length k) (hF T k) + 1) j = H j := fun j hj => by rw [fdH_old _ _ (by omega), upd_ne _ _ (by omega)]
  replace e0 := e0 (D T.length (hm T.length k) (hF T k) + 1)
  replace e1 := e1 (D T.length (hm T.length k) (hF T k) + 1)
  replace e2 := e2 (D T.length (hm T.length k) (hF T k) + 1)
  generalize fdH (upd H n (some (.obj 68 1 [[.ptr a 2 0 0]] false))) (n + 1) T (hm T.length k) (D T.length (hm T.length k) (hF T k) + 1) = H1 at *
  generalize n + 1 + (D T.length (hm T.length k) (hF T k) + 1) = n1 at *
  have ne3 : ¬ a = n1 ∧ ¬ s = n1 ∧ ¬ n = n1 := by and_intros <;> omega
  refine ADraw.planR [] [(0, true), (1, true), (2, true), (3, true), (4, true), (5, true), (6, true), (7, true), (8, true)] [(0, false), (0, false), (0, false), (0, false), (0, false), (0, false), (0, false), (0, false), (0, false)] mixed (by kernel_rfl) (by kernel_rfl) ?_
  have hgf : (sl T (hF T k)).full = (sl T (hF T k)).full := rfl
  cases hf : (sl T (hF T k)).full with
  | false =>
    rw [hf] at hg
    simp (maxSteps := 400000) (dsimp := false) only [e0, e1, e2, r0, r1, hg, ne3, upd_upd, axs, AThen, ABlock, dstsOk, AStep, callsF, AWant, aop, AS.ev, AS.put, upd, AS.bound, abin, aint, aload, astore, cellsAt, AV.cells, alen, elems, AV.int?, FPost, aresL, ares1, pack, afill, splice, Value.oneCell', Nat.reduceLT, Nat.reduceLeDiff, Nat.reduceEqDiff, Nat.reduceAdd, Nat.reduceMul, Nat.reduceSub, Nat.reduceBEq, Int.reduceLE, Int.reduceLT, Int.reduceToNat, Int.reduceNeg, Int.reduceEq, axt, ftK, ft3, pickP, AScope, AAll, pickQ, ftQ, inHeap, tys]
    have hd : hDel T k = (T, false) := by unfold hDel; rw [if_neg (by rw [hf]; simp)]
    rw [hd]
    exact ⟨_, rfl, rfl, by omega, fun j hj hja hjs => by rw [upd_ne _ _ (by omega), old j hj], s, h2.new, .inl rfl⟩
  | true =>
    rw [hf] at hg
    have hpos : 1 ≤ cnt T := by rw [hf, if_pos rfl] at p3; exact List.countP_pos_iff.2 ⟨_, (mem_iff.1 ((ok.there k).1 hf).1).2, hf⟩
    have w1 : IntKind.i64.wrap ((cnt T : Int) - 1) = ((cnt T - 1 : Nat) : Int) := by rw [wrap_in (by omega) (by omega)]; omega
    have ne4 : ¬ a = n1 + 1 ∧ ¬ s = n1 + 1 ∧ ¬ n = n1 + 1 ∧ ¬ n1 = n1 + 1 ∧ ¬ n1 = a ∧ ¬ n1 + 1 = a ∧ ¬ n1 = s ∧ ¬ n1 + 1 = s ∧ ¬ n1 = n ∧ ¬ n1 + 1 = n ∧ ¬ n1 + 1 = n1 := by and_intros <;> omega
    have h3 := ((h2.new (x := some (.obj 3 1 [[.sc (.int .i64 (hF T k))]] false))).many ((cnt T - 1 : Nat) : Int)).new (x := some (.obj 3 1 [[.sc (.int .i64 T.length)]] false))
    simp (maxSteps := 400000) (dsimp := false) only [e0, e1, e2, r0, r1, hg, ne3, w1, hne2, nea, ne4, upd_upd, axs, AThen, ABlock, dstsOk, AStep, callsF, AWant, aop, AS.ev, AS.put, upd, AS.bound, abin, aint, aload, astore, cellsAt, AV.cells, alen, elems, AV.int?, FPost, aresL, ares1, pack, afill, splice, Value.oneCell', Nat.reduceLT, Nat.reduceLeDiff, Nat.reduceEqDiff, Nat.reduceAdd, Nat.reduceMul, Nat.reduceSub, Nat.reduceBEq, Int.reduceLE, Int.reduceLT, Int.reduceToNat, Int.reduceNeg, Int.reduceEq, axt, ftK, ft3, pickP, AScope, AAll, pickQ, ftQ, inHeap, tys]
    refine ACallK.heap _ rfl (cNext h3 hp hq.lt) ?_; rintro r' H' n' ⟨rfl, eH, en⟩; obtain rfl := eH.symm; obtain rfl := en.symm; clear eH en; simp (maxSteps := 400000) (dsimp := false) only [axs, AThen, ABlock, dstsOk, AStep, callsF, AWant, aop, AS.ev, AS.put, upd, AS.bound, abin, aint, aload, astore, cellsAt, AV.cells, alen, elems, AV.int?, FPost, aresL, ares1, pack, afill, splice, Value.oneCell', Nat.reduceLT, Nat.reduceLeDiff, Nat.reduceEqDiff, Nat.reduceAdd, Nat.reduceMul, Nat.reduceSub, Nat.reduceBEq, Int.reduceLE, Int.reduceLT, Int.reduceToNat, Int.reduceNeg, Int.reduceEq, axt, ftK, ft3, pickP, AScope, AAll, pickQ, ftQ, inHeap, tys]
    have hh : ∀ k, hm T.length k < T.length := fun k => hm_lt (by omega) k
    have hc := clen_is hq.lt hf ok.room
    have hhf := half_all hh ok.inv hq.lt hc
    have hsh := shift_is hh ok.inv hq.lt hc
    have hd : hDel T k = (rel T.length (hm T.length) T (hF T k) (clen T (hF T k)) (clen T (hF T k)), true) := by unfold hDel; rw [if_pos hf]
    rw [hf, if_pos rfl] at p3
    rw [hd] at p3 ⊢
    simp only [] at p3
    have hql := hq.lt
    generalize hF T k = q at *
    generalize clen T q = c at *
    have hclt := hc.lt
    refine ALoop.upto c (fun j st => st.t 2 = .ptr n 1 0 0 ∧ st.t 5 = .ptr n1 1 0 0 ∧ st.t 7 = .fn 81 [.ptr n 1 0 0, .ptr (n1 + 1) 1 0 0, .ptr n1 1 0 0] ∧ st.t 8 = .sc (.int .i64 (adv T.length q (j + 1))) ∧ HtH st.H st.n a s (shf T.length (hm T.length) T q j).1 ((cnt T - 1 : Nat) : Int) ∧ st.H n = some (.obj 68 1 [[.ptr a 2 0 0]] false) ∧ st.H n1 = some (.obj 3 1 [[.sc (.int .i64 (shf T.length (hm T.length) T q j).2)]] false) ∧ st.H (n1 + 1) = some (.obj 3 1 [[.sc (.int .i64 T.length)]] false) ∧ st.n = n1 + 1 + 1 ∧ ∀ i, i < n → i ≠ a → i ≠ s → st.H i = H i) ?_ ?_
    · refine ⟨rfl, rfl, rfl, rfl, h3, ?_, ?_, ?_, rfl, ?_⟩
      · simp [upd, ne3, ne4, nea, e2]
      · simp [upd, ne3, ne4, nea]; rfl
      · simp [upd]
      · intro i hi hia his
        have : ¬ i = n1 ∧ ¬ i = n1 + 1 := by omega
        simp [upd, this, hia, old i hi]
    rintro j st hj hb ⟨t2, t5, t7, t8, hu, b1, b2, b3, en, hkp⟩
    have hhj := hhf j hj
    have hat : adv T.length q (j + 1) < T.length := adv_lt hql (by omega)
    have hsame := hhj.rest _ hat (by rw [D_adv hql (by omega)]; omega)
    have hstep : shf T.length (hm T.length) T q (j + 1) = if D T.length (hm T.length (sl T (adv T.length q (j + 1))).key) (adv T.length q (j + 1)) ≥ D T.length (shf T.length (hm T.length) T q j).2 (adv T.length q (j + 1)) then ((shf T.length (hm T.length) T q j).1.set (shf T.length (hm T.length) T q j).2 (sl T (adv T.length q (j + 1))), adv T.length q (j + 1)) else shf T.length (hm T.length) T q j := rfl
    have hnext : j < c → adv T.length q (j + 1 + 1) = adv T.length (adv T.length q (j + 1)) 1 := fun hx => adv_succ hql (by omega)
    have hhole := hhj.hole
    have hslen := hhj.slen
    have hua := hu.ha
    have hus := hu.hs
    have hgu := TL_get (T := (shf T.length (hm T.length) T q j).1) (q := adv T.length q (j + 1)) (by omega)
    have hgh := TL_get (T := (shf T.length (hm T.length) T q j).1) (q := (shf T.length (hm T.length) T q j).2) (by omega)
    rw [hsame] at hgu
    have hset := TL_set (shf T.length (hm T.length) T q j).1 (shf T.length (hm T.length) T q j).2
    have x0 : (0 : Int) ≤ (adv T.length q (j + 1) : Int) := by omega
    have x1 : (adv T.length q (j + 1) : Int) < (shf T.length (hm T.length) T q j).1.length := by omega
    have y0 : (0 : Int) ≤ ((shf T.length (hm T.length) T q j).2 : Int) := by omega
    have y1 : ((shf T.length (hm T.length) T q j).2 : Int) < (shf T.length (hm T.length) T q j).1.length := by omega
    have hhjc : j = c → (shf T.length (hm T.length) T q j).1.set (shf T.length (hm T.length) T q j).2 z3 = rel T.length (hm T.length) T q c c := fun e => by rw [e]; exact hsh
    generalize hPe : shf T.length (hm T.length) T q j = PH at *
    obtain ⟨P, hole⟩ := PH
    simp only [] at hu b2 hsame hstep hhole hslen hua hus hgu hgh hset x0 x1 y0 y1 hhjc
    by_cases hx : j < c
    · have hfu := hc.on (j + 1) (by omega) (by omega)
      have hnx := hnext hx
      generalize adv T.length q (j + 1) = r at *
      have hkk : Key (sl T r).key := ok.keys _ ⟨hfu, _, hat, rfl⟩
      have hcf := cFits hu (by rw [hslen]; exact hp) b1 (by rw [hslen]; exact b3) b2 (r := r) (by omega) (by omega) (by rw [hsame]; exact hkk)
      rw [hslen, hsame] at hcf
      have hsx := hset (sl T r)
      rw [hfu] at hgu hsx
      simp (maxSteps := 400000) (dsimp := false) only [t2, t5, t7, t8, b1, b2, b3, hua, hus, x0, x1, hgu, axs, AThen, ABlock, dstsOk, AStep, callsF, AWant, aop, AS.ev, AS.put, upd, AS.bound, abin, aint, aload, astore, cellsAt, AV.cells, alen, elems, AV.int?, FPost, aresL, ares1, pack, afill, splice, Value.oneCell', Nat.reduceLT, Nat.reduceLeDiff, Nat.reduceEqDiff, Nat.reduceAdd, Nat.reduceMul, Nat.reduceSub, Nat.reduceBEq, Int.reduceLE, Int.reduceLT, Int.reduceToNat, Int.reduceNeg, Int.reduceEq, axt, ftK, ft3, pickP, AScope, AAll, pickQ, ftQ, inHeap, tys]
      refine ACallK.heap _ rfl (hcf) ?_; rintro r' H' n' ⟨rfl, eH, en⟩; obtain rfl := eH.symm; obtain rfl := en.symm; clear eH en; simp (maxSteps := 400000) (dsimp := false) only [axs, AThen, ABlock, dstsOk, AStep, callsF, AWant, aop, AS.ev, AS.put, upd, AS.bound, abin, aint, aload, astore, cellsAt, AV.cells, alen, elems, AV.int?, FPost, aresL, ares1, pack, afill, splice, Value.oneCell', Nat.reduceLT, Nat.reduceLeDiff, Nat.reduceEqDiff, Nat.reduceAdd, Nat.reduceMul, Nat.reduceSub, Nat.reduceBEq, Int.reduceLE, Int.reduceLT, Int.reduceToNat, Int.reduceNeg, Int.reduceEq, axt, ftK, ft3, pickP, AScope, AAll, pickQ, ftQ, inHeap, tys]
      by_cases hfit : D T.length hole r ≤ D T.length (hm T.length (sl T r).key) r
      · have h4 := (hu.setAt hole (sl T r)).other (i := n1) (x := some (.obj 3 1 [[.sc (.int .i64 r)]] false)) (by omega) (by omega)
        have hcn := cNext h4 (by rw [List.length_set, hslen]; exact hp) (q := r) (by rw [List.length_set]; omega)
        rw [List.length_set, hslen] at hcn
        simp (maxSteps := 400000) (dsimp := false) only [hfit, axs, AThen, ABlock, dstsOk, AStep, callsF, AWant, aop, AS.ev, AS.put, upd, AS.bound, abin, aint, aload, astore, cellsAt, AV.cells, alen, elems, AV.int?, FPost, aresL, ares1, pack, afill, splice, Value.oneCell', Nat.reduceLT, Nat.reduceLeDiff, Nat.reduceEqDiff, Nat.reduceAdd, Nat.reduceMul, Nat.reduceSub, Nat.reduceBEq, Int.reduceLE, Int.reduceLT, Int.reduceToNat, Int.reduceNeg, Int.reduceEq, axt, ftK, ft3, pickP, AScope, AAll, pickQ, ftQ, inHeap, tys]
        refine ADraw.planR [] [(0, true), (1, true), (2, true), (3, true), (4, true), (5, true), (6, true), (7, true), (8, true), (9, true), (10, true), (11, true), (12, true), (13, true)] [(0, false), (0, false), (0, false), (0, false), (0, false), (0, false), (0, false), (0, false), (0, false), (0, false), (0, false), (0, false), (0, false), (0, false)] mixed (by kernel_rfl) (by kernel_rfl) ?_
        simp (maxSteps := 400000) (dsimp := false) only [t2, t5, t8, b1, b2, hua, hus, x0, x1, y0, y1, hgu, hgh, hsx, ne3, ne4, nea, axs, AThen, ABlock, dstsOk, AStep, callsF, AWant, aop, AS.ev, AS.put, upd, AS.bound, abin, aint, aload, astore, cellsAt, AV.cells, alen, elems, AV.int?, FPost, aresL, ares1, pack, afill, splice, Value.oneCell', Nat.reduceLT, Nat.reduceLeDiff, Nat.reduceEqDiff, Nat.reduceAdd, Nat.reduceMul, Nat.reduceSub, Nat.reduceBEq, Int.reduceLE, Int.reduceLT, Int.reduceToNat, Int.reduceNeg, Int.reduceEq, axt, ftK, ft3, pickP, AScope, AAll, pickQ, ftQ, inHeap, tys]
        refine ACallK.heap _ rfl (hcn) ?_; rintro r' H' n' ⟨rfl, eH, en⟩; obtain rfl := eH.symm; obtain rfl := en.symm; clear eH en; simp (maxSteps := 400000) (dsimp := false) only [axs, AThen, ABlock, dstsOk, AStep, callsF, AWant, aop, AS.ev, AS.put, upd, AS.bound, abin, aint, aload, astore, cellsAt, AV.cells, alen, elems, AV.int?, FPost, aresL, ares1, pack, afill, splice, Value.oneCell', Nat.reduceLT, Nat.reduceLeDiff, Nat.reduceEqDiff, Nat.reduceAdd, Nat.reduceMul, Nat.reduceSub, Nat.reduceBEq, Int.reduceLE, Int.reduceLT, Int.reduceToNat, Int.reduceNeg, Int.reduceEq, axt, ftK, ft3, pickP, AScope, AAll, pickQ, ftQ, inHeap, tys]
        rw [if_pos hfit] at hstep
        rw [hstep]
        refine ⟨hx, t2, t5, t7, by rw [hnx], h4, ?_, rfl, ?_, en, fun i hi hia his => ?_⟩
        · rw [if_neg (by omega), if_neg (by omega)]; exact b1
        · rw [if_neg (by omega)]; exact b3
        · rw [if_neg (by omega), if_neg his]; exact hkp i hi hia his
      · have hcn := cNext hu (by rw [hslen]; exact hp) (q := r) (by omega)
        rw [hslen] at hcn
        simp (maxSteps := 400000) (dsimp := false) only [hfit, t2, t8, b1, axs, AThen, ABlock, dstsOk, AStep, callsF, AWant, aop, AS.ev, AS.put, upd, AS.bound, abin, aint, aload, astore, cellsAt, AV.cells, alen, elems, AV.int?, FPost, aresL, ares1, pack, afill, splice, Value.oneCell', Nat.reduceLT, Nat.reduceLeDiff, Nat.reduceEqDiff, Nat.reduceAdd, Nat.reduceMul, Nat.reduceSub, Nat.reduceBEq, Int.reduceLE, Int.reduceLT, Int.reduceToNat, Int.reduceNeg, Int.reduceEq, axt, ftK, ft3, pickP, AScope, AAll, pickQ, ftQ, inHeap, tys]
        refine ACallK.heap _ rfl (hcn) ?_; rintro r' H' n' ⟨rfl, eH, en⟩; obtain rfl := eH.symm; obtain rfl := en.symm; clear eH en; simp (maxSteps := 400000) (dsimp := false) only [axs, AThen, ABlock, dstsOk, AStep, callsF, AWant, aop, AS.ev, AS.put, upd, AS.bound, abin, aint, aload, astore, cellsAt, AV.cells, alen, elems, AV.int?, FPost, aresL, ares1, pack, afill, splice, Value.oneCell', Nat.reduceLT, Nat.reduceLeDiff, Nat.reduceEqDiff, Nat.reduceAdd, Nat.reduceMul, Nat.reduceSub, Nat.reduceBEq, Int.reduceLE, Int.reduceLT, Int.reduceToNat, Int.reduceNeg, Int.reduceEq, axt, ftK, ft3, pickP, AScope, AAll, pickQ, ftQ, inHeap, tys]
        rw [if_neg hfit] at hstep
        rw [hstep]
        exact ⟨hx, t2, t5, t7, by rw [hnx], hu, b1, b2, b3, en, hkp⟩
    · have hjc : j = c := by omega
      have hoff : (sl T (adv T.length q (j + 1))).full = false := by rw [hjc]; exact hc.off
      rw [hoff] at hgu
      have hz : (TL P).set hole [.sc (.int .u64 0), .sc (.int .i32 0), .sc (.bool false)] = TL (P.set hole z3) := hset z3
      simp (maxSteps := 400000) (dsimp := false) only [t2, t5, t7, t8, b1, b2, b3, hua, hus, x0, x1, hgu, axs, AThen, ABlock, dstsOk, AStep, callsF, AWant, aop, AS.ev, AS.put, upd, AS.bound, abin, aint, aload, astore, cellsAt, AV.cells, alen, elems, AV.int?, FPost, aresL, ares1, pack, afill, splice, Value.oneCell', Nat.reduceLT, Nat.reduceLeDiff, Nat.reduceEqDiff, Nat.reduceAdd, Nat.reduceMul, Nat.reduceSub, Nat.reduceBEq, Int.reduceLE, Int.reduceLT, Int.reduceToNat, Int.reduceNeg, Int.reduceEq, axt, ftK, ft3, pickP, AScope, AAll, pickQ, ftQ, inHeap, tys]
      refine ADraw.planR [] [(0, true), (1, true), (2, true), (3, true), (4, true), (5, true), (6, true), (7, true)] [(0, false), (0, false), (0, false), (0, false), (0, false), (0, false), (0, false), (0, false)] mixed (by kernel_rfl) (by kernel_rfl) ?_
      simp (maxSteps := 400000) (dsimp := false) only [t2, t5, b1, b2, hua, hus, y0, y1, hgh, hz, axs, AThen, ABlock, dstsOk, AStep, callsF, AWant, aop, AS.ev, AS.put, upd, AS.bound, abin, aint, aload, astore, cellsAt, AV.cells, alen, elems, AV.int?, FPost, aresL, ares1, pack, afill, splice, Value.oneCell', Nat.reduceLT, Nat.reduceLeDiff, Nat.reduceEqDiff, Nat.reduceAdd, Nat.reduceMul, Nat.reduceSub, Nat.reduceBEq, Int.reduceLE, Int.reduceLT, Int.reduceToNat, Int.reduceNeg, Int.reduceEq, axt, ftK, ft3, pickP, AScope, AAll, pickQ, ftQ, inHeap, tys]
      have h5 := hu.setAt hole z3
      rw [hhjc hjc] at h5 ⊢
      rw [← p3] at h5
      refine ⟨_, rfl, rfl, by omega, fun i hi hia his => ?_, s, h5, .inl rfl⟩
      rw [upd_ne _ _ his, hkp i hi hia his]
end Go.Al
