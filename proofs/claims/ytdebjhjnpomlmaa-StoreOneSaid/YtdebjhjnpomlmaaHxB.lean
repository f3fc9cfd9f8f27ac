/- Numbers by keys, in slots, by the program: how a table grows. Conditions: the numbers fit their kinds. Numbers by keys, in slots, by the program: how a number is put. Conditions: the numbers fit their kinds. Numbers by keys, in slots, by the program: how a key is taken out. Conditions: the numbers fit their kinds. Numbers by keys, in slots: the reference: what is told of a table, and how a slot is laid. Conditions: the numbers fit their kinds. Numbers by keys, in slots: the reference: how a number is put. Conditions: the numbers fit their kinds. Numbers by keys, in slots: the reference: how a key is taken out. Conditions: the numbers fit their kinds. -/
import Derived.Test.YtdebjhjnpomlmaaHxA
section
set_option linter.unusedVariables false
set_option linter.unusedSimpArgs false
set_option maxRecDepth 20000
set_option maxHeartbeats 1600000
namespace Go.Al
open Go.Proofs
def rehP (T : Tb) (p : Nat) : Tb := relay (2 * T.length) (hm (2 * T.length)) (List.replicate (2 * T.length) z3) (T.take p)
theorem rehP_all (T : Tb) : rehP T T.length = rehash T := by
  unfold rehP rehash relay
  rw [List.take_length]
theorem rehP_succ {T : Tb} {p : Nat} (hp : p < T.length) : rehP T (p + 1) = if (sl T p).full then lay1 (2 * T.length) (hm (2 * T.length)) (rehP T p) (sl T p) else rehP T p := by
  have : T.take (p + 1) = T.take p ++ [sl T p] := by rw [List.take_add_one, sl_get hp]; rfl
  unfold rehP relay
  rw [this, List.foldl_append]
  rfl
theorem rehP_part {T : Tb} (hl : 0 < T.length) {h : Int → Nat} (hi : HInv T.length h T) (p : Nat) : HInv (2 * T.length) (hm (2 * T.length)) (rehP T p) ∧ Room (2 * T.length) (rehP T p) ∧ (rehP T p).length = 2 * T.length := by
  have hc : (T.take p).countP (·.full) ≤ T.length := Nat.le_trans List.countP_le_length (by simp; omega)
  obtain ⟨q1, q2, q3⟩ := relay_all (N := 2 * T.length) (h := hm (2 * T.length)) (fun k => hm_lt (by omega) k) (T.take p) (List.replicate (2 * T.length) z3) (empty_inv _ _) (by rw [empty_cnt]; omega) (fun t ht => absurd ht (empty_mem _ _)) ((inv_pair hi).sublist (List.take_sublist _ _))
  have hlen := q1.len
  refine ⟨q1, ?_, hlen⟩
  rw [empty_cnt] at q2
  have := room_of (T := rehP T p) (by rw [show cnt (rehP T p) = _ from q2]; unfold rehP; omega)
  rwa [show (rehP T p).length = 2 * T.length from hlen] at this
theorem HtH.setAt {H : AH} {n a s : Nat} {T : Tb} {m : Int} (h : HtH H n a s T m) (q : Nat) (x : Sl3) : HtH (upd H s (some (.obj 130 3 (TL (T.set q x)) false))) n a s (T.set q x) m :=
  ⟨by rw [upd_ne _ _ h.ne, List.length_set]; exact h.ha, upd_same _ _ _, h.la, h.ls⟩
theorem cGrow {H : AH} {n a s : Nat} {T : Tb} {m : Int} (h : HtH H n a s T m) (hp : Pw T.length) (hp2 : Pw (2 * T.length)) (hi : HInv T.length (hm T.length) T) (hkeys : ∀ t, Mem T t → Key t.key) :
    HCalls Try.prog 92 [.ptr a 2 0 0] H n fun r H' n' => r = .tup [] ∧ HtH H' n' a n (rehash T) m ∧ n ≤ n' ∧ ∀ j, j < n → j ≠ a → H' j = H j := by
  have ha := h.ha
  have hs := h.hs
  have la := h.la
  have ls := h.ls
  have hne := h.ne
  have hl := hp.le
  have hl2 := hp2.le
  have hneq : ¬ a = n ∧ ¬ n = a ∧ ¬ s = n ∧ ¬ n = s ∧ ¬ a = s ∧ ¬ s = a := by and_intros <;> omega
  have w1 : IntKind.i64.wrap ((T.length : Int) * 2) = ((2 * T.length : Nat) : Int) := by rw [wrap_in (by omega) (by omega)]; omega
  have w1' : IntKind.i64.wrap (2 * (T.length : Int)) = ((2 * T.length : Nat) : Int) := by rw [wrap_in (by omega) (by omega)]; omega
  have b1 : (0 : Int) ≤ ((2 * T.length : Nat) : Int) := by omega
  have b2 : ((2 * T.length : Nat) : Int) * 16 ≤ 140737488355328 := by omega
  have b3 : ((2 * T.length : Nat) : Int) ≤ 1099511627776 := by omega
  have hrep := TL_rep (2 * T.length)
  have hpart := fun p => rehP_part (T := T) (by omega) hi p
  refine HCalls.walk Try.func92 rfl rfl Try.ntmps92 Try.results92 (by simp) ?_; simp (maxSteps := 400000) (dsimp := false) only [ha, w1, w1', b1, b2, b3, hneq, hrep, axs, AThen, ABlock, dstsOk, AStep, callsF, AWant, aop, AS.ev, AS.put, upd, AS.bound, abin, aint, aload, astore, cellsAt, AV.cells, alen, elems, AV.int?, FPost, aresL, ares1, pack, afill, splice, Value.oneCell', Nat.reduceLT, Nat.reduceLeDiff, Nat.reduceEqDiff, Nat.reduceAdd, Nat.reduceMul, Nat.reduceSub, Nat.reduceBEq, Int.reduceLE, Int.reduceLT, Int.reduceToNat, Int.reduceNeg, Int.reduceEq, axt, ftK, ft3, pickP, AScope, AAll, pickQ, ftQ, inHeap, tys]
  refine ALoop.upto T.length (fun p st => st.t 0 = .ptr a 2 0 0 ∧ st.t 16 = .sl s 3 0 T.length ∧ st.t 17 = .sc (.int .i64 T.length) ∧ st.t 18 = .sc (.int .i64 p) ∧ HtH st.H st.n a n (rehP T p) m ∧ st.H s = some (.obj 130 3 (TL T) false) ∧ n ≤ st.n ∧ ∀ j, j < n → j ≠ a → st.H j = H j) ?_ ?_
  · refine ⟨rfl, rfl, rfl, rfl, ⟨?_, ?_, by show a < n + 1; omega, by show n < n + 1; omega⟩, ?_, by show n ≤ n + 1; omega, ?_⟩
    · simp [upd, rehP, relay]
    · simp [upd, hneq, rehP, relay]
    · simp [upd, hneq, hs]
    · intro j hj hja
      have : ¬ j = n := by omega
      simp [upd, hja, this]
  rintro p st hpl hb ⟨t0, t16, t17, t18, hu, hso, hn, hkp⟩
  obtain ⟨i1, i2, i3⟩ := hpart p
  have hua := hu.ha
  have hus := hu.hs
  have hua2 : a < st.n := hu.la
  have hus2 : n < st.n := hu.ls
  by_cases hx : p < T.length
  · have x1 : (p : Int) < T.length := by omega
    have x0 : (0 : Int) ≤ p := by omega
    have hg := TL_get hx
    have w2 : IntKind.i64.wrap ((p : Int) + 1) = ((p + 1 : Nat) : Int) := by rw [wrap_in (by omega) (by omega)]; omega
    have hsu := rehP_succ hx
    have nes : ¬ a = st.n ∧ ¬ st.n = a ∧ ¬ s = st.n ∧ ¬ st.n = s ∧ ¬ n = st.n ∧ ¬ st.n = n := by and_intros <;> omega
    have hmem : (sl T p).full = true → Mem T (sl T p) := fun e => ⟨e, p, hx, rfl⟩
    cases hf : (sl T p).full with
    | false =>
      simp (maxSteps := 400000) (dsimp := false) only [t0, t16, t17, t18, x0, x1, hso, hg, hf, w2, nes, upd_upd, axs, AThen, ABlock, dstsOk, AStep, callsF, AWant, aop, AS.ev, AS.put, upd, AS.bound, abin, aint, aload, astore, cellsAt, AV.cells, alen, elems, AV.int?, FPost, aresL, ares1, pack, afill, splice, Value.oneCell', Nat.reduceLT, Nat.reduceLeDiff, Nat.reduceEqDiff, Nat.reduceAdd, Nat.reduceMul, Nat.reduceSub, Nat.reduceBEq, Int.reduceLE, Int.reduceLT, Int.reduceToNat, Int.reduceNeg, Int.reduceEq, axt, ftK, ft3, pickP, AScope, AAll, pickQ, ftQ, inHeap, tys]
      rw [hf] at hsu
      refine ⟨hx, by rw [hsu]; exact hu.new, by omega, fun j hj hja => ?_⟩
      rw [if_neg (by omega)]; exact hkp j hj hja
    | true =>
      have hkk := hkeys _ (hmem hf)
      rw [hf] at hsu
      have hq := hFind_room (k := (sl T p).key) (hm_lt (by omega) _) i2
      have hsu : rehP T (p + 1) = (rehP T p).set (hFind (2 * T.length) (hm (2 * T.length)) (rehP T p) (sl T p).key) (sl T p) := hsu
      generalize hFind (2 * T.length) (hm (2 * T.length)) (rehP T p) (sl T p).key = q at *
      generalize rehP T (p + 1) = V at *
      generalize rehP T p = U at *
      rw [← i3] at hq hp2
      have r0 : (0 : Int) ≤ q := by omega
      have r1 : (q : Int) < U.length := by have := hq.lt; omega
      have hgu := TL_get hq.lt
      have e0 : ∀ (j : Nat) (x : Option AO), fdH (upd st.H st.n x) (st.n + 1) U (hm U.length (sl T p).key) j n = some (.obj 130 3 (TL U) false) := fun j x => by rw [fdH_old _ _ (by omega), upd_ne _ _ (by omega)]; exact hus
      have hset := TL_set U q (sl T p)
      rw [hf] at hset
      simp (maxSteps := 400000) (dsimp := false) only [t0, t16, t17, t18, x0, x1, hso, hg, hf, w2, nes, upd_upd, axs, AThen, ABlock, dstsOk, AStep, callsF, AWant, aop, AS.ev, AS.put, upd, AS.bound, abin, aint, aload, astore, cellsAt, AV.cells, alen, elems, AV.int?, FPost, aresL, ares1, pack, afill, splice, Value.oneCell', Nat.reduceLT, Nat.reduceLeDiff, Nat.reduceEqDiff, Nat.reduceAdd, Nat.reduceMul, Nat.reduceSub, Nat.reduceBEq, Int.reduceLE, Int.reduceLT, Int.reduceToNat, Int.reduceNeg, Int.reduceEq, axt, ftK, ft3, pickP, AScope, AAll, pickQ, ftQ, inHeap, tys]
      refine ADraw.planQR [] [7] [(0, true), (1, true), (2, true), (3, true), (4, true), (5, true), (6, true), (8, true), (7, true), (9, true), (10, true)] [(0, 0), (0, 0), (0, 0), (0, 0), (0, 0), (0, 0), (0, 0), (1, 0), (0, 2), (0, 0), (0, 0)] mixed (by kernel_rfl) (by kernel_rfl) ?_
      simp (maxSteps := 400000) (dsimp := false) only [t0, hua, nes, axs, AThen, ABlock, dstsOk, AStep, callsF, AWant, aop, AS.ev, AS.put, upd, AS.bound, abin, aint, aload, astore, cellsAt, AV.cells, alen, elems, AV.int?, FPost, aresL, ares1, pack, afill, splice, Value.oneCell', Nat.reduceLT, Nat.reduceLeDiff, Nat.reduceEqDiff, Nat.reduceAdd, Nat.reduceMul, Nat.reduceSub, Nat.reduceBEq, Int.reduceLE, Int.reduceLT, Int.reduceToNat, Int.reduceNeg, Int.reduceEq, axt, ftK, ft3, pickP, AScope, AAll, pickQ, ftQ, inHeap, tys]
      refine AQuietK.intro rfl rfl (cFind hu.new hp2 hkk hq) (fun id hid => fdH_old _ _ hid) ?_
      simp (maxSteps := 400000) (dsimp := false) only [e0, r0, r1, hgu, hset, t18, w2, t0, t16, t17, axs, AThen, ABlock, dstsOk, AStep, callsF, AWant, aop, AS.ev, AS.put, upd, AS.bound, abin, aint, aload, astore, cellsAt, AV.cells, alen, elems, AV.int?, FPost, aresL, ares1, pack, afill, splice, Value.oneCell', Nat.reduceLT, Nat.reduceLeDiff, Nat.reduceEqDiff, Nat.reduceAdd, Nat.reduceMul, Nat.reduceSub, Nat.reduceBEq, Int.reduceLE, Int.reduceLT, Int.reduceToNat, Int.reduceNeg, Int.reduceEq, axt, ftK, ft3, pickP, AScope, AAll, pickQ, ftQ, inHeap, tys]
      have hold : ∀ (j i : Nat) (x : Option AO), j < st.n → fdH (upd st.H st.n x) (st.n + 1) U (hm U.length (sl T p).key) i j = st.H j := fun j i x hj => by rw [fdH_old _ _ (by omega), upd_ne _ _ (by omega)]
      refine ⟨hx, ?_, ?_, by omega, fun j hj hja => ?_⟩
      · rw [hsu]
        exact (hu.new.keeps (fdH_keeps _ _ _ _ _)).setAt q (sl T p)
      · rw [if_neg (by omega), hold _ _ _ (by omega), hso]
      · rw [if_neg (by omega), hold _ _ _ (by omega)]; exact hkp j hj hja
  · have x1 : ¬ (p : Int) < T.length := by omega
    simp (maxSteps := 400000) (dsimp := false) only [t17, t18, x1, axs, AThen, ABlock, dstsOk, AStep, callsF, AWant, aop, AS.ev, AS.put, upd, AS.bound, abin, aint, aload, astore, cellsAt, AV.cells, alen, elems, AV.int?, FPost, aresL, ares1, pack, afill, splice, Value.oneCell', Nat.reduceLT, Nat.reduceLeDiff, Nat.reduceEqDiff, Nat.reduceAdd, Nat.reduceMul, Nat.reduceSub, Nat.reduceBEq, Int.reduceLE, Int.reduceLT, Int.reduceToNat, Int.reduceNeg, Int.reduceEq, axt, ftK, ft3, pickP, AScope, AAll, pickQ, ftQ, inHeap, tys]
    have : p = T.length := by omega
    subst this
    rw [rehP_all] at hu
    exact ⟨_, rfl, rfl, hu, hn, hkp⟩
end Go.Al
end
section
set_option linter.unusedVariables false
set_option linter.unusedSimpArgs false
set_option maxRecDepth 20000
set_option maxHeartbeats 1600000
namespace Go.Al
open Go.Proofs
theorem HtH.many {H : AH} {n a s : Nat} {T : Tb} {m : Int} (h : HtH H n a s T m) (m' : Int) : HtH (upd H a (some (.obj 106 2 [[.sl s 3 0 T.length, .sc (.int .i64 m')]] false))) n a s T m' :=
  ⟨upd_same _ _ _, by rw [upd_ne _ _ (fun e => h.ne e.symm)]; exact h.hs, h.la, h.ls⟩
/-- What becomes of a table's objects. -/
structure HtTo (H : AH) (n a s : Nat) (H' : AH) (n' : Nat) (T' : Tb) : Prop where
  le : n ≤ n'
  keep : ∀ j, j < n → j ≠ a → j ≠ s → H' j = H j
  at_ : ∃ s', HtH H' n' a s' T' (cnt T') ∧ (s' = s ∨ n ≤ s')
theorem HOk.pw {T : Tb} (h : HOk T) : Pw T.length := h.pow
theorem pw_two {N : Nat} (h : Pw N) (hs : N ≤ 524288) : Pw (2 * N) := by
  obtain ⟨p, h1, h2, rfl⟩ := h
  refine ⟨p + 1, by omega, ?_, by rw [Nat.pow_succ]; omega⟩
  have : ¬ 20 ≤ p := by
    intro hp
    have : 2 ^ 20 ≤ 2 ^ p := Nat.pow_le_pow_right (by omega) hp
    have e : (2 : Nat) ^ 20 = 1048576 := by decide
    omega
  omega
theorem cHtPut {H : AH} {n a s : Nat} {T : Tb} (h : HtH H n a s T (cnt T)) (ok : HOk T) (hsm : T.length ≤ 524288) {k : Int} (hk : Key k) (x : Int) :
    HCalls Try.prog 75 [.ptr a 2 0 0, .sc (.int .u64 k), .sc (.int .i32 x)] H n fun r H' n' => r = .tup [] ∧ HtTo H n a s H' n' (hPut T k x) := by
  have ha := h.ha
  have hs := h.hs
  have la := h.la
  have ls := h.ls
  have hne := h.ne
  have hne2 : ¬ a = s ∧ ¬ s = a := ⟨hne, fun e => hne e.symm⟩
  have hp := ok.pw
  have hl := hp.le
  have hq := ok.find k
  have hcl := cnt_le T
  obtain ⟨g1, g2, g3, g4, g5⟩ := putT_all ok hsm k
  obtain ⟨p1, p2, p3, p4, p5⟩ := put_all ok hsm hk.1 hk.2 x
  have r0 : (0 : Int) ≤ (hF T k : Int) := by omega
  have r1 : (hF T k : Int) < T.length := by have := hq.lt; omega
  have hg := TL_get hq.lt
  have hset := TL_set T (hF T k) ⟨k, x, true⟩
  have w1 : IntKind.i64.wrap ((cnt T : Int) + 1) = (cnt T : Int) + 1 := wrap_in (by omega) (by omega)
  have w2 : IntKind.i64.wrap (4 * ((cnt T : Int) + 1)) = 4 * ((cnt T : Int) + 1) := wrap_in (by omega) (by omega)
  have w3 : IntKind.i64.wrap (3 * (T.length : Int)) = 3 * (T.length : Int) := wrap_in (by omega) (by omega)
  have w2' : IntKind.i64.wrap (((cnt T : Int) + 1) * 4) = 4 * ((cnt T : Int) + 1) := by rw [wrap_in (by omega) (by omega)]; omega
  have w3' : IntKind.i64.wrap ((T.length : Int) * 3) = 3 * (T.length : Int) := by rw [wrap_in (by omega) (by omega)]; omega
  have e0 : ∀ j, fdH H n T (hm T.length k) j a = some (.obj 106 2 [[.sl s 3 0 T.length, .sc (.int .i64 (cnt T))]] false) := fun j => by rw [fdH_old _ _ la]; exact ha
  have e1 : ∀ j, fdH H n T (hm T.length k) j s = some (.obj 130 3 (TL T) false) := fun j => by rw [fdH_old _ _ ls]; exact hs
  refine HCalls.walk Try.func75 rfl rfl Try.ntmps75 Try.results75 (by simp) ?_; simp (maxSteps := 400000) (dsimp := false) only [ha, axs, AThen, ABlock, dstsOk, AStep, callsF, AWant, aop, AS.ev, AS.put, upd, AS.bound, abin, aint, aload, astore, cellsAt, AV.cells, alen, elems, AV.int?, FPost, aresL, ares1, pack, afill, splice, Value.oneCell', Nat.reduceLT, Nat.reduceLeDiff, Nat.reduceEqDiff, Nat.reduceAdd, Nat.reduceMul, Nat.reduceSub, Nat.reduceBEq, Int.reduceLE, Int.reduceLT, Int.reduceToNat, Int.reduceNeg, Int.reduceEq, axt, ftK, ft3, pickP, AScope, AAll, pickQ, ftQ, inHeap, tys]
  refine ACallK.heap _ rfl (cFind h hp hk hq) ?_; rintro r' H' n' ⟨rfl, eH, en⟩; obtain rfl := eH.symm; obtain rfl := en.symm; clear eH en; simp (maxSteps := 400000) (dsimp := false) only [e0, e1, r0, r1, hg, hne2, axs, AThen, ABlock, dstsOk, AStep, callsF, AWant, aop, AS.ev, AS.put, upd, AS.bound, abin, aint, aload, astore, cellsAt, AV.cells, alen, elems, AV.int?, FPost, aresL, ares1, pack, afill, splice, Value.oneCell', Nat.reduceLT, Nat.reduceLeDiff, Nat.reduceEqDiff, Nat.reduceAdd, Nat.reduceMul, Nat.reduceSub, Nat.reduceBEq, Int.reduceLE, Int.reduceLT, Int.reduceToNat, Int.reduceNeg, Int.reduceEq, axt, ftK, ft3, pickP, AScope, AAll, pickQ, ftQ, inHeap, tys]
  cases hf : (sl T (hF T k)).full with
  | true =>
    have hT : putT T k = T := by unfold putT; rw [if_pos hf]
    have hP : hPut T k x = T.set (hF T k) ⟨k, x, true⟩ := by unfold hPut; rw [hT]
    rw [hf] at hg
    simp (maxSteps := 400000) (dsimp := false) only [e0, e1, r0, r1, hg, hset, hne2, axs, AThen, ABlock, dstsOk, AStep, callsF, AWant, aop, AS.ev, AS.put, upd, AS.bound, abin, aint, aload, astore, cellsAt, AV.cells, alen, elems, AV.int?, FPost, aresL, ares1, pack, afill, splice, Value.oneCell', Nat.reduceLT, Nat.reduceLeDiff, Nat.reduceEqDiff, Nat.reduceAdd, Nat.reduceMul, Nat.reduceSub, Nat.reduceBEq, Int.reduceLE, Int.reduceLT, Int.reduceToNat, Int.reduceNeg, Int.reduceEq, axt, ftK, ft3, pickP, AScope, AAll, pickQ, ftQ, inHeap, tys]
    rw [hf, if_pos rfl] at p3
    have h1 := ((h.keeps (fdH_keeps H n T (hm T.length k) (D T.length (hm T.length k) (hF T k) + 1))).setAt (hF T k) ⟨k, x, true⟩)
    rw [← hP] at h1 ⊢
    rw [← p3] at h1
    refine ⟨_, rfl, rfl, by omega, fun j hj hja hjs => ?_, s, h1, .inl rfl⟩
    rw [upd_ne _ _ hjs, fdH_old _ _ hj]
  | false =>
    rw [hf] at hg
    simp (maxSteps := 400000) (dsimp := false) only [e0, e1, r0, r1, hg, hne2, w1, axs, AThen, ABlock, dstsOk, AStep, callsF, AWant, aop, AS.ev, AS.put, upd, AS.bound, abin, aint, aload, astore, cellsAt, AV.cells, alen, elems, AV.int?, FPost, aresL, ares1, pack, afill, splice, Value.oneCell', Nat.reduceLT, Nat.reduceLeDiff, Nat.reduceEqDiff, Nat.reduceAdd, Nat.reduceMul, Nat.reduceSub, Nat.reduceBEq, Int.reduceLE, Int.reduceLT, Int.reduceToNat, Int.reduceNeg, Int.reduceEq, axt, ftK, ft3, pickP, AScope, AAll, pickQ, ftQ, inHeap, tys]
    refine ADraw.planR [] [(0, true), (1, true), (2, true), (3, true), (4, true), (5, true), (6, true), (7, true), (8, true), (9, true), (10, true), (11, true)] [(0, false), (0, false), (0, false), (0, false), (0, false), (0, false), (0, false), (0, false), (0, false), (0, false), (0, false), (0, false)] mixed (by kernel_rfl) (by kernel_rfl) ?_
    simp (maxSteps := 400000) (dsimp := false) only [e0, e1, hne2, w2, w3, w2', w3', axs, AThen, ABlock, dstsOk, AStep, callsF, AWant, aop, AS.ev, AS.put, upd, AS.bound, abin, aint, aload, astore, cellsAt, AV.cells, alen, elems, AV.int?, FPost, aresL, ares1, pack, afill, splice, Value.oneCell', Nat.reduceLT, Nat.reduceLeDiff, Nat.reduceEqDiff, Nat.reduceAdd, Nat.reduceMul, Nat.reduceSub, Nat.reduceBEq, Int.reduceLE, Int.reduceLT, Int.reduceToNat, Int.reduceNeg, Int.reduceEq, axt, ftK, ft3, pickP, AScope, AAll, pickQ, ftQ, inHeap, tys]
    rw [hf] at p3
    simp only [Bool.false_eq_true, if_false] at p3
    have hm1 : ((cnt T : Int) + 1) = ((cnt (hPut T k x) : Nat) : Int) := by rw [p3]; omega
    have h1 := (h.keeps (fdH_keeps H n T (hm T.length k) (D T.length (hm T.length k) (hF T k) + 1))).many ((cnt T : Int) + 1)
    by_cases hb : 4 * cnt T + 4 > 3 * T.length
    · have hb' : 4 * ((cnt T : Int) + 1) > 3 * (T.length : Int) := by omega
      have hT : putT T k = rehash T := by unfold putT big; rw [if_neg (by rw [hf]; simp), if_pos hb]
      have hP : hPut T k x = (rehash T).set (hF (rehash T) k) ⟨k, x, true⟩ := by unfold hPut; rw [hT]
      rw [hT] at g1
      have hq2 := g1.find k
      have hp2 := g1.pw
      simp (maxSteps := 400000) (dsimp := false) only [hb', axs, AThen, ABlock, dstsOk, AStep, callsF, AWant, aop, AS.ev, AS.put, upd, AS.bound, abin, aint, aload, astore, cellsAt, AV.cells, alen, elems, AV.int?, FPost, aresL, ares1, pack, afill, splice, Value.oneCell', Nat.reduceLT, Nat.reduceLeDiff, Nat.reduceEqDiff, Nat.reduceAdd, Nat.reduceMul, Nat.reduceSub, Nat.reduceBEq, Int.reduceLE, Int.reduceLT, Int.reduceToNat, Int.reduceNeg, Int.reduceEq, axt, ftK, ft3, pickP, AScope, AAll, pickQ, ftQ, inHeap, tys]
      refine ACallK.heap _ rfl (cGrow h1 hp (pw_two hp hsm) ok.inv ok.keys) ?_
      rintro r' H' n' ⟨rfl, hG, hn, hkp⟩
      have hn : n + (D T.length (hm T.length k) (hF T k) + 1) ≤ n' := hn
      have hG : HtH H' n' a (n + (D T.length (hm T.length k) (hF T k) + 1)) (rehash T) ((cnt T : Int) + 1) := hG
      have hkp : ∀ j, j < n + (D T.length (hm T.length k) (hF T k) + 1) → j ≠ a → H' j = upd (fdH H n T (hm T.length k) (D T.length (hm T.length k) (hF T k) + 1)) a (some (.obj 106 2 [[.sl s 3 0 T.length, .sc (.int .i64 ((cnt T : Int) + 1))]] false)) j := hkp
      have ga := hG.ha
      have gs := hG.hs
      have ga2 := hG.la
      have gs2 := hG.ls
      have gne := hG.ne
      have e2 : ∀ j, fdH H' n' (rehash T) (hm (rehash T).length k) j a = H' a := fun j => fdH_old _ _ ga2
      have e3 : ∀ j, fdH H' n' (rehash T) (hm (rehash T).length k) j (n + (D T.length (hm T.length k) (hF T k) + 1)) = H' (n + (D T.length (hm T.length k) (hF T k) + 1)) := fun j => fdH_old _ _ gs2
      have hg2 := TL_get hq2.lt
      have t0 : (0 : Int) ≤ (hF (rehash T) k : Int) := by omega
      have t1 : (hF (rehash T) k : Int) < (rehash T).length := by have := hq2.lt; omega
      have hset2 := TL_set (rehash T) (hF (rehash T) k) ⟨k, x, true⟩
      simp (maxSteps := 400000) (dsimp := false) only [axs, AThen, ABlock, dstsOk, AStep, callsF, AWant, aop, AS.ev, AS.put, upd, AS.bound, abin, aint, aload, astore, cellsAt, AV.cells, alen, elems, AV.int?, FPost, aresL, ares1, pack, afill, splice, Value.oneCell', Nat.reduceLT, Nat.reduceLeDiff, Nat.reduceEqDiff, Nat.reduceAdd, Nat.reduceMul, Nat.reduceSub, Nat.reduceBEq, Int.reduceLE, Int.reduceLT, Int.reduceToNat, Int.reduceNeg, Int.reduceEq, axt, ftK, ft3, pickP, AScope, AAll, pickQ, ftQ, inHeap, tys]
      refine ACallK.heap _ rfl (cFind hG hp2 hk hq2) ?_; rintro r' H' n' ⟨rfl, eH, en⟩; obtain rfl := eH.symm; obtain rfl := en.symm; clear eH en; simp (maxSteps := 400000) (dsimp := false) only [e2, e3, ga, gs, t0, t1, hg2, hset2, axs, AThen, ABlock, dstsOk, AStep, callsF, AWant, aop, AS.ev, AS.put, upd, AS.bound, abin, aint, aload, astore, cellsAt, AV.cells, alen, elems, AV.int?, FPost, aresL, ares1, pack, afill, splice, Value.oneCell', Nat.reduceLT, Nat.reduceLeDiff, Nat.reduceEqDiff, Nat.reduceAdd, Nat.reduceMul, Nat.reduceSub, Nat.reduceBEq, Int.reduceLE, Int.reduceLT, Int.reduceToNat, Int.reduceNeg, Int.reduceEq, axt, ftK, ft3, pickP, AScope, AAll, pickQ, ftQ, inHeap, tys]
      have h2 := ((hG.keeps (fdH_keeps H' n' (rehash T) (hm (rehash T).length k) (D (rehash T).length (hm (rehash T).length k) (hF (rehash T) k) + 1))).setAt (hF (rehash T) k) ⟨k, x, true⟩)
      rw [← hP, hm1] at h2
      rw [← hP]
      refine ⟨_, rfl, rfl, by omega, fun j hj hja hjs => ?_, _, h2, .inr (by omega)⟩
      rw [upd_ne _ _ (by omega), fdH_old _ _ (by omega), hkp j (by omega) hja, upd_ne _ _ hja, fdH_old _ _ hj]
    · have hb' : ¬ 4 * ((cnt T : Int) + 1) > 3 * (T.length : Int) := by omega
      have hT : putT T k = T := by unfold putT big; rw [if_neg (by rw [hf]; simp), if_neg hb]
      have hP : hPut T k x = T.set (hF T k) ⟨k, x, true⟩ := by unfold hPut; rw [hT]
      simp (maxSteps := 400000) (dsimp := false) only [hb', hne2, e0, e1, r0, r1, hg, hset, axs, AThen, ABlock, dstsOk, AStep, callsF, AWant, aop, AS.ev, AS.put, upd, AS.bound, abin, aint, aload, astore, cellsAt, AV.cells, alen, elems, AV.int?, FPost, aresL, ares1, pack, afill, splice, Value.oneCell', Nat.reduceLT, Nat.reduceLeDiff, Nat.reduceEqDiff, Nat.reduceAdd, Nat.reduceMul, Nat.reduceSub, Nat.reduceBEq, Int.reduceLE, Int.reduceLT, Int.reduceToNat, Int.reduceNeg, Int.reduceEq, axt, ftK, ft3, pickP, AScope, AAll, pickQ, ftQ, inHeap, tys]
      have h2 := h1.setAt (hF T k) ⟨k, x, true⟩
      rw [← hP, hm1] at h2
      rw [← hP, hm1]
      refine ⟨_, rfl, rfl, by omega, fun j hj hja hjs => ?_, s, h2, .inl rfl⟩
      rw [upd_ne _ _ hjs, upd_ne _ _ hja, fdH_old _ _ hj]
end Go.Al
end
section
set_option linter.unusedVariables false
set_option linter.unusedSimpArgs false
set_option maxRecDepth 20000
set_option maxHeartbeats 1600000
namespace Go.Al
open Go.Proofs
theorem cFits {H : AH} {n a s : Nat} {U : Tb} {m : Int} (h : HtH H n a s U m) (hp : Pw U.length) {b cN g r hole : Nat} (hb : H b = some (.obj 68 1 [[.ptr a 2 0 0]] false)) (hN : H cN = some (.obj 3 1 [[.sc (.int .i64 U.length)]] false)) (hg : H g = some (.obj 3 1 [[.sc (.int .i64 hole)]] false)) (hr : r < U.length) (hh : hole < U.length) (hk : Key (sl U r).key) :
    HCalls Try.prog 81 [.sc (.int .i64 r), .ptr b 1 0 0, .ptr cN 1 0 0, .ptr g 1 0 0] H n fun v H' n' => v = .sc (.bool (decide (D U.length hole r ≤ D U.length (hm U.length (sl U r).key) r))) ∧ H' = H ∧ n' = n := by
  have ha := h.ha
  have hs := h.hs
  have hl := hp.le
  have e := hm_home hp hk
  have hhm : hm U.length (sl U r).key < U.length := hm_lt (by omega) _
  have e1 := apart_D hp hhm hr
  have e2 := apart_D hp hh hr
  have r0 : (0 : Int) ≤ r := by omega
  have r1 : (r : Int) < U.length := by omega
  have hgt := TL_get hr
  have hge : ∀ x y : Nat, ((x : Int) ≥ (y : Int)) = (y ≤ x) := fun x y => propext ⟨fun h => by omega, fun h => by omega⟩
  refine HCalls.walk Try.func81 rfl rfl Try.ntmps81 Try.results81 (by simp) ?_; simp (maxSteps := 400000) (dsimp := false) only [axs, AThen, ABlock, dstsOk, AStep, callsF, AWant, aop, AS.ev, AS.put, upd, AS.bound, abin, aint, aload, astore, cellsAt, AV.cells, alen, elems, AV.int?, FPost, aresL, ares1, pack, afill, splice, Value.oneCell', Nat.reduceLT, Nat.reduceLeDiff, Nat.reduceEqDiff, Nat.reduceAdd, Nat.reduceMul, Nat.reduceSub, Nat.reduceBEq, Int.reduceLE, Int.reduceLT, Int.reduceToNat, Int.reduceNeg, Int.reduceEq, axt, ftK, ft3, pickP, AScope, AAll, pickQ, ftQ, inHeap, tys]
  refine ADraw.planR [] [(0, true), (1, true), (2, true), (3, true), (4, true), (5, true), (6, true), (7, true), (8, true), (9, true), (10, true)] [(0, false), (0, false), (0, false), (0, false), (0, false), (0, false), (0, false), (0, false), (0, false), (0, false), (0, false)] mixed (by kernel_rfl) (by kernel_rfl) ?_
  simp (maxSteps := 400000) (dsimp := false) only [ha, hs, hb, hN, hg, r0, r1, hgt, axs, AThen, ABlock, dstsOk, AStep, callsF, AWant, aop, AS.ev, AS.put, upd, AS.bound, abin, aint, aload, astore, cellsAt, AV.cells, alen, elems, AV.int?, FPost, aresL, ares1, pack, afill, splice, Value.oneCell', Nat.reduceLT, Nat.reduceLeDiff, Nat.reduceEqDiff, Nat.reduceAdd, Nat.reduceMul, Nat.reduceSub, Nat.reduceBEq, Int.reduceLE, Int.reduceLT, Int.reduceToNat, Int.reduceNeg, Int.reduceEq, axt, ftK, ft3, pickP, AScope, AAll, pickQ, ftQ, inHeap, tys]
  refine ACallP.pure rfl (f13 _ _) ?_; simp (maxSteps := 400000) (dsimp := false) only [e, axs, AThen, ABlock, dstsOk, AStep, callsF, AWant, aop, AS.ev, AS.put, upd, AS.bound, abin, aint, aload, astore, cellsAt, AV.cells, alen, elems, AV.int?, FPost, aresL, ares1, pack, afill, splice, Value.oneCell', Nat.reduceLT, Nat.reduceLeDiff, Nat.reduceEqDiff, Nat.reduceAdd, Nat.reduceMul, Nat.reduceSub, Nat.reduceBEq, Int.reduceLE, Int.reduceLT, Int.reduceToNat, Int.reduceNeg, Int.reduceEq, axt, ftK, ft3, pickP, AScope, AAll, pickQ, ftQ, inHeap, tys]
  refine ADraw.planR [] [(0, true), (1, true), (2, true), (3, true), (4, true), (5, true), (6, true), (7, true), (8, true), (9, true)] [(0, false), (0, false), (0, false), (0, false), (0, false), (0, false), (0, false), (0, false), (0, false), (0, false)] mixed (by kernel_rfl) (by kernel_rfl) ?_
  simp (maxSteps := 400000) (dsimp := false) only [hN, hg, axs, AThen, ABlock, dstsOk, AStep, callsF, AWant, aop, AS.ev, AS.put, upd, AS.bound, abin, aint, aload, astore, cellsAt, AV.cells, alen, elems, AV.int?, FPost, aresL, ares1, pack, afill, splice, Value.oneCell', Nat.reduceLT, Nat.reduceLeDiff, Nat.reduceEqDiff, Nat.reduceAdd, Nat.reduceMul, Nat.reduceSub, Nat.reduceBEq, Int.reduceLE, Int.reduceLT, Int.reduceToNat, Int.reduceNeg, Int.reduceEq, axt, ftK, ft3, pickP, AScope, AAll, pickQ, ftQ, inHeap, tys]
  refine ACallP.pure rfl (f15 _ _ _) ?_; simp (maxSteps := 400000) (dsimp := false) only [e1, hN, hg, axs, AThen, ABlock, dstsOk, AStep, callsF, AWant, aop, AS.ev, AS.put, upd, AS.bound, abin, aint, aload, astore, cellsAt, AV.cells, alen, elems, AV.int?, FPost, aresL, ares1, pack, afill, splice, Value.oneCell', Nat.reduceLT, Nat.reduceLeDiff, Nat.reduceEqDiff, Nat.reduceAdd, Nat.reduceMul, Nat.reduceSub, Nat.reduceBEq, Int.reduceLE, Int.reduceLT, Int.reduceToNat, Int.reduceNeg, Int.reduceEq, axt, ftK, ft3, pickP, AScope, AAll, pickQ, ftQ, inHeap, tys]
  refine ACallP.pure rfl (f15 _ _ _) ?_; simp (maxSteps := 400000) (dsimp := false) only [e2, hge, axs, AThen, ABlock, dstsOk, AStep, callsF, AWant, aop, AS.ev, AS.put, upd, AS.bound, abin, aint, aload, astore, cellsAt, AV.cells, alen, elems, AV.int?, FPost, aresL, ares1, pack, afill, splice, Value.oneCell', Nat.reduceLT, Nat.reduceLeDiff, Nat.reduceEqDiff, Nat.reduceAdd, Nat.reduceMul, Nat.reduceSub, Nat.reduceBEq, Int.reduceLE, Int.reduceLT, Int.reduceToNat, Int.reduceNeg, Int.reduceEq, axt, ftK, ft3, pickP, AScope, AAll, pickQ, ftQ, inHeap, tys]
  exact ⟨_, rfl, rfl⟩
theorem HtH.other {H : AH} {n a s : Nat} {T : Tb} {m : Int} (h : HtH H n a s T m) {i : Nat} {x : Option AO} (h1 : a ≠ i) (h2 : s ≠ i) : HtH (upd H i x) n a s T m :=
  ⟨by rw [upd_ne _ _ h1]; exact h.ha, by rw [upd_ne _ _ h2]; exact h.hs, h.la, h.ls⟩
theorem cHtDelete {H : AH} {n a s : Nat} {T : Tb} (h : HtH H n a s T (cnt T)) (ok : HOk T) {k : Int} (hk : Key k) :
    HCalls Try.prog 60 [.ptr a 2 0 0, .sc (.int .u64 k)] H n fun r H' n' => r = .sc (.bool (hDel T k).2) ∧ HtTo H n a s H' n' (hDel T k).1 := by
  have ha := h.ha
  have hs := h.hs
  have la := h.la
  have ls := h.ls
  have hne := h.ne
  have hne2 : ¬ a = s ∧ ¬ s = a := ⟨hne, fun e => hne e.symm⟩
  have hp := ok.pw
  have hl := hp.le
  have hq := ok.find k
  have hcl := cnt_le T
  obtain ⟨p1, p2, p3, p4⟩ := del_all ok k
  have r0 : (0 : Int) ≤ (hF T k : Int) := by omega
  have r1 : (hF T k : Int) < T.length := by have := hq.lt; omega
  have hg := TL_get hq.lt
  have h1 := h.new (x := some (.obj 68 1 [[.ptr a 2 0 0]] false))
  have nea : ¬ a = n ∧ ¬ n = a ∧ ¬ s = n ∧ ¬ n = s := by and_intros <;> omega
  have e0 : ∀ j, fdH (upd H n (some (.obj 68 1 [[.ptr a 2 0 0]] false))) (n + 1) T (hm T.length k) j a = some (.obj 106 2 [[.sl s 3 0 T.length, .sc (.int .i64 (cnt T))]] false) := fun j => by rw [fdH_old _ _ (by omega), upd_ne _ _ (by omega)]; exact ha
  have e1 : ∀ j, fdH (upd H n (some (.obj 68 1 [[.ptr a 2 0 0]] false))) (n + 1) T (hm T.length k) j s = some (.obj 130 3 (TL T) false) := fun j => by rw [fdH_old _ _ (by omega), upd_ne _ _ (by omega)]; exact hs
  have e2 : ∀ j, fdH (upd H n (some (.obj 68 1 [[.ptr a 2 0 0]] false))) (n + 1) T (hm T.length k) j n = some (.obj 68 1 [[.ptr a 2 0 0]] false) := fun j => by rw [fdH_old _ _ (by omega), upd_same]
  refine HCalls.walk Try.func60 rfl rfl Try.ntmps60 Try.results60 (by simp) ?_; simp (maxSteps := 400000) (dsimp := false) only [axs, AThen, ABlock, dstsOk, AStep, callsF, AWant, aop, AS.ev, AS.put, upd, AS.bound, abin, aint, aload, astore, cellsAt, AV.cells, alen, elems, AV.int?, FPost, aresL, ares1, pack, afill, splice, Value.oneCell', Nat.reduceLT, Nat.reduceLeDiff, Nat.reduceEqDiff, Nat.reduceAdd, Nat.reduceMul, Nat.reduceSub, Nat.reduceBEq, Int.reduceLE, Int.reduceLT, Int.reduceToNat, Int.reduceNeg, Int.reduceEq, axt, ftK, ft3, pickP, AScope, AAll, pickQ, ftQ, inHeap, tys]
  refine ACallK.heap _ rfl (cFind h1 hp hk hq) ?_; rintro r' H' n' ⟨rfl, eH, en⟩; obtain rfl := eH.symm; obtain rfl := en.symm; clear eH en; simp (maxSteps := 400000) (dsimp := false) only [e0, e1, e2, axs, AThen, ABlock, dstsOk, AStep, callsF, AWant, aop, AS.ev, AS.put, upd, AS.bound, abin, aint, aload, astore, cellsAt, AV.cells, alen, elems, AV.int?, FPost, aresL, ares1, pack, afill, splice, Value.oneCell', Nat.reduceLT, Nat.reduceLeDiff, Nat.reduceEqDiff, Nat.reduceAdd, Nat.reduceMul, Nat.reduceSub, Nat.reduceBEq, Int.reduceLE, Int.reduceLT, Int.reduceToNat, Int.reduceNeg, Int.reduceEq, axt, ftK, ft3, pickP, AScope, AAll, pickQ, ftQ, inHeap, tys]
  have h2 := h1.keeps (fdH_keeps _ _ T (hm T.length k) (D T.length (hm T.length k) (hF T k) + 1))
  have hn1 : n + 1 ≤ n + 1 + (D T.length (hm T.length k) (hF T k) + 1) := by omega
  have old : ∀ j, j < n → fdH (upd H n (some (.obj 68 1 [[.ptr a 2 0 0]] false))) (n + 1) T (hm T.length k) (D T.length (hm T.length k) (hF T k) + 1) j = H j := fun j hj => by rw [fdH_old _ _ (by omega), upd_ne _ _ (by omega)]
  replace e0 := e0 (D T.length (hm T.length k) (hF T k) + 1)
  replace e1 := e1 (D T.length (hm T.length k) (hF T k) + 1)
  replace e2 := e2 (D T.length (hm T.length k) (hF T k) + 1)
  generalize fdH (upd H n (some (.obj 68 1 [[.ptr a 2 0 0]] false))) (n + 1) T (hm T.length k) (D T.length (hm T.length k) (hF T k) + 1) = H1 at *
  generalize n + 1 + (D T.length (hm T.length k) (hF T k) + 1) = n1 at *
  have ne3 : ¬ a = n1 ∧ ¬ s = n1 ∧ ¬ n = n1 := by and_intros <;> omega
  refine ADraw.planR [] [(0, true), (1, true), (2, true), (3, true), (4, true), (5, true), (6, true), (7, true), (8, true)] [(0, false), (0, false), (0, false), (0, false), (0, false), (0, false), (0, false), (0, false), (0, false)] mixed (by kernel_rfl) (by kernel_rfl) ?_
  have hgf : (sl T (hF T k)).full = (sl T (hF T k)).full := rfl
  cases hf : (sl T (hF T k)).full with
  | false =>
    rw [hf] at hg
    simp (maxSteps := 400000) (dsimp := false) only [e0, e1, e2, r0, r1, hg, ne3, upd_upd, axs, AThen, ABlock, dstsOk, AStep, callsF, AWant, aop, AS.ev, AS.put, upd, AS.bound, abin, aint, aload, astore, cellsAt, AV.cells, alen, elems, AV.int?, FPost, aresL, ares1, pack, afill, splice, Value.oneCell', Nat.reduceLT, Nat.reduceLeDiff, Nat.reduceEqDiff, Nat.reduceAdd, Nat.reduceMul, Nat.reduceSub, Nat.reduceBEq, Int.reduceLE, Int.reduceLT, Int.reduceToNat, Int.reduceNeg, Int.reduceEq, axt, ftK, ft3, pickP, AScope, AAll, pickQ, ftQ, inHeap, tys]
    have hd : hDel T k = (T, false) := by unfold hDel; rw [if_neg (by rw [hf]; simp)]
    rw [hd]
    exact ⟨_, rfl, rfl, by omega, fun j hj hja hjs => by rw [upd_ne _ _ (by omega), old j hj], s, h2.new, .inl rfl⟩
  | true =>
    rw [hf] at hg
    have hpos : 1 ≤ cnt T := by rw [hf, if_pos rfl] at p3; exact List.countP_pos_iff.2 ⟨_, (mem_iff.1 ((ok.there k).1 hf).1).2, hf⟩
    have w1 : IntKind.i64.wrap ((cnt T : Int) - 1) = ((cnt T - 1 : Nat) : Int) := by rw [wrap_in (by omega) (by omega)]; omega
    have ne4 : ¬ a = n1 + 1 ∧ ¬ s = n1 + 1 ∧ ¬ n = n1 + 1 ∧ ¬ n1 = n1 + 1 ∧ ¬ n1 = a ∧ ¬ n1 + 1 = a ∧ ¬ n1 = s ∧ ¬ n1 + 1 = s ∧ ¬ n1 = n ∧ ¬ n1 + 1 = n ∧ ¬ n1 + 1 = n1 := by and_intros <;> omega
    have h3 := ((h2.new (x := some (.obj 3 1 [[.sc (.int .i64 (hF T k))]] false))).many ((cnt T - 1 : Nat) : Int)).new (x := some (.obj 3 1 [[.sc (.int .i64 T.length)]] false))
    simp (maxSteps := 400000) (dsimp := false) only [e0, e1, e2, r0, r1, hg, ne3, w1, hne2, nea, ne4, upd_upd, axs, AThen, ABlock, dstsOk, AStep, callsF, AWant, aop, AS.ev, AS.put, upd, AS.bound, abin, aint, aload, astore, cellsAt, AV.cells, alen, elems, AV.int?, FPost, aresL, ares1, pack, afill, splice, Value.oneCell', Nat.reduceLT, Nat.reduceLeDiff, Nat.reduceEqDiff, Nat.reduceAdd, Nat.reduceMul, Nat.reduceSub, Nat.reduceBEq, Int.reduceLE, Int.reduceLT, Int.reduceToNat, Int.reduceNeg, Int.reduceEq, axt, ftK, ft3, pickP, AScope, AAll, pickQ, ftQ, inHeap, tys]
    refine ACallK.heap _ rfl (cNext h3 hp hq.lt) ?_; rintro r' H' n' ⟨rfl, eH, en⟩; obtain rfl := eH.symm; obtain rfl := en.symm; clear eH en; simp (maxSteps := 400000) (dsimp := false) only [axs, AThen, ABlock, dstsOk, AStep, callsF, AWant, aop, AS.ev, AS.put, upd, AS.bound, abin, aint, aload, astore, cellsAt, AV.cells, alen, elems, AV.int?, FPost, aresL, ares1, pack, afill, splice, Value.oneCell', Nat.reduceLT, Nat.reduceLeDiff, Nat.reduceEqDiff, Nat.reduceAdd, Nat.reduceMul, Nat.reduceSub, Nat.reduceBEq, Int.reduceLE, Int.reduceLT, Int.reduceToNat, Int.reduceNeg, Int.reduceEq, axt, ftK, ft3, pickP, AScope, AAll, pickQ, ftQ, inHeap, tys]
    have hh : ∀ k, hm T.length k < T.length := fun k => hm_lt (by omega) k
    have hc := clen_is hq.lt hf ok.room
    have hhf := half_all hh ok.inv hq.lt hc
    have hsh := shift_is hh ok.inv hq.lt hc
    have hd : hDel T k = (rel T.length (hm T.length) T (hF T k) (clen T (hF T k)) (clen T (hF T k)), true) := by unfold hDel; rw [if_pos hf]
    rw [hf, if_pos rfl] at p3
    rw [hd] at p3 ⊢
    simp only [] at p3
    have hql := hq.lt
    generalize hF T k = q at *
    generalize clen T q = c at *
    have hclt := hc.lt
    refine ALoop.upto c (fun j st => st.t 2 = .ptr n 1 0 0 ∧ st.t 5 = .ptr n1 1 0 0 ∧ st.t 7 = .fn 81 [.ptr n 1 0 0, .ptr (n1 + 1) 1 0 0, .ptr n1 1 0 0] ∧ st.t 8 = .sc (.int .i64 (adv T.length q (j + 1))) ∧ HtH st.H st.n a s (shf T.length (hm T.length) T q j).1 ((cnt T - 1 : Nat) : Int) ∧ st.H n = some (.obj 68 1 [[.ptr a 2 0 0]] false) ∧ st.H n1 = some (.obj 3 1 [[.sc (.int .i64 (shf T.length (hm T.length) T q j).2)]] false) ∧ st.H (n1 + 1) = some (.obj 3 1 [[.sc (.int .i64 T.length)]] false) ∧ st.n = n1 + 1 + 1 ∧ ∀ i, i < n → i ≠ a → i ≠ s → st.H i = H i) ?_ ?_
    · refine ⟨rfl, rfl, rfl, rfl, h3, ?_, ?_, ?_, rfl, ?_⟩
      · simp [upd, ne3, ne4, nea, e2]
      · simp [upd, ne3, ne4, nea]; rfl
      · simp [upd]
      · intro i hi hia his
        have : ¬ i = n1 ∧ ¬ i = n1 + 1 := by omega
        simp [upd, this, hia, old i hi]
    rintro j st hj hb ⟨t2, t5, t7, t8, hu, b1, b2, b3, en, hkp⟩
    have hhj := hhf j hj
    have hat : adv T.length q (j + 1) < T.length := adv_lt hql (by omega)
    have hsame := hhj.rest _ hat (by rw [D_adv hql (by omega)]; omega)
    have hstep : shf T.length (hm T.length) T q (j + 1) = if D T.length (hm T.length (sl T (adv T.length q (j + 1))).key) (adv T.length q (j + 1)) ≥ D T.length (shf T.length (hm T.length) T q j).2 (adv T.length q (j + 1)) then ((shf T.length (hm T.length) T q j).1.set (shf T.length (hm T.length) T q j).2 (sl T (adv T.length q (j + 1))), adv T.length q (j + 1)) else shf T.length (hm T.length) T q j := rfl
    have hnext : j < c → adv T.length q (j + 1 + 1) = adv T.length (adv T.length q (j + 1)) 1 := fun hx => adv_succ hql (by omega)
    have hhole := hhj.hole
    have hslen := hhj.slen
    have hua := hu.ha
    have hus := hu.hs
    have hgu := TL_get (T := (shf T.length (hm T.length) T q j).1) (q := adv T.length q (j + 1)) (by omega)
    have hgh := TL_get (T := (shf T.length (hm T.length) T q j).1) (q := (shf T.length (hm T.length) T q j).2) (by omega)
    rw [hsame] at hgu
    have hset := TL_set (shf T.length (hm T.length) T q j).1 (shf T.length (hm T.length) T q j).2
    have x0 : (0 : Int) ≤ (adv T.length q (j + 1) : Int) := by omega
    have x1 : (adv T.length q (j + 1) : Int) < (shf T.length (hm T.length) T q j).1.length := by omega
    have y0 : (0 : Int) ≤ ((shf T.length (hm T.length) T q j).2 : Int) := by omega
    have y1 : ((shf T.length (hm T.length) T q j).2 : Int) < (shf T.length (hm T.length) T q j).1.length := by omega
    have hhjc : j = c → (shf T.length (hm T.length) T q j).1.set (shf T.length (hm T.length) T q j).2 z3 = rel T.length (hm T.length) T q c c := fun e => by rw [e]; exact hsh
    generalize hPe : shf T.length (hm T.length) T q j = PH at *
    obtain ⟨P, hole⟩ := PH
    simp only [] at hu b2 hsame hstep hhole hslen hua hus hgu hgh hset x0 x1 y0 y1 hhjc
    by_cases hx : j < c
    · have hfu := hc.on (j + 1) (by omega) (by omega)
      have hnx := hnext hx
      generalize adv T.length q (j + 1) = r at *
      have hkk : Key (sl T r).key := ok.keys _ ⟨hfu, _, hat, rfl⟩
      have hcf := cFits hu (by rw [hslen]; exact hp) b1 (by rw [hslen]; exact b3) b2 (r := r) (by omega) (by omega) (by rw [hsame]; exact hkk)
      rw [hslen, hsame] at hcf
      have hsx := hset (sl T r)
      rw [hfu] at hgu hsx
      simp (maxSteps := 400000) (dsimp := false) only [t2, t5, t7, t8, b1, b2, b3, hua, hus, x0, x1, hgu, axs, AThen, ABlock, dstsOk, AStep, callsF, AWant, aop, AS.ev, AS.put, upd, AS.bound, abin, aint, aload, astore, cellsAt, AV.cells, alen, elems, AV.int?, FPost, aresL, ares1, pack, afill, splice, Value.oneCell', Nat.reduceLT, Nat.reduceLeDiff, Nat.reduceEqDiff, Nat.reduceAdd, Nat.reduceMul, Nat.reduceSub, Nat.reduceBEq, Int.reduceLE, Int.reduceLT, Int.reduceToNat, Int.reduceNeg, Int.reduceEq, axt, ftK, ft3, pickP, AScope, AAll, pickQ, ftQ, inHeap, tys]
      refine ACallK.heap _ rfl (hcf) ?_; rintro r' H' n' ⟨rfl, eH, en⟩; obtain rfl := eH.symm; obtain rfl := en.symm; clear eH en; simp (maxSteps := 400000) (dsimp := false) only [axs, AThen, ABlock, dstsOk, AStep, callsF, AWant, aop, AS.ev, AS.put, upd, AS.bound, abin, aint, aload, astore, cellsAt, AV.cells, alen, elems, AV.int?, FPost, aresL, ares1, pack, afill, splice, Value.oneCell', Nat.reduceLT, Nat.reduceLeDiff, Nat.reduceEqDiff, Nat.reduceAdd, Nat.reduceMul, Nat.reduceSub, Nat.reduceBEq, Int.reduceLE, Int.reduceLT, Int.reduceToNat, Int.reduceNeg, Int.reduceEq, axt, ftK, ft3, pickP, AScope, AAll, pickQ, ftQ, inHeap, tys]
      by_cases hfit : D T.length hole r ≤ D T.length (hm T.length (sl T r).key) r
      · have h4 := (hu.setAt hole (sl T r)).other (i := n1) (x := some (.obj 3 1 [[.sc (.int .i64 r)]] false)) (by omega) (by omega)
        have hcn := cNext h4 (by rw [List.length_set, hslen]; exact hp) (q := r) (by rw [List.length_set]; omega)
        rw [List.length_set, hslen] at hcn
        simp (maxSteps := 400000) (dsimp := false) only [hfit, axs, AThen, ABlock, dstsOk, AStep, callsF, AWant, aop, AS.ev, AS.put, upd, AS.bound, abin, aint, aload, astore, cellsAt, AV.cells, alen, elems, AV.int?, FPost, aresL, ares1, pack, afill, splice, Value.oneCell', Nat.reduceLT, Nat.reduceLeDiff, Nat.reduceEqDiff, Nat.reduceAdd, Nat.reduceMul, Nat.reduceSub, Nat.reduceBEq, Int.reduceLE, Int.reduceLT, Int.reduceToNat, Int.reduceNeg, Int.reduceEq, axt, ftK, ft3, pickP, AScope, AAll, pickQ, ftQ, inHeap, tys]
        refine ADraw.planR [] [(0, true), (1, true), (2, true), (3, true), (4, true), (5, true), (6, true), (7, true), (8, true), (9, true), (10, true), (11, true), (12, true), (13, true)] [(0, false), (0, false), (0, false), (0, false), (0, false), (0, false), (0, false), (0, false), (0, false), (0, false), (0, false), (0, false), (0, false), (0, false)] mixed (by kernel_rfl) (by kernel_rfl) ?_
        simp (maxSteps := 400000) (dsimp := false) only [t2, t5, t8, b1, b2, hua, hus, x0, x1, y0, y1, hgu, hgh, hsx, ne3, ne4, nea, axs, AThen, ABlock, dstsOk, AStep, callsF, AWant, aop, AS.ev, AS.put, upd, AS.bound, abin, aint, aload, astore, cellsAt, AV.cells, alen, elems, AV.int?, FPost, aresL, ares1, pack, afill, splice, Value.oneCell', Nat.reduceLT, Nat.reduceLeDiff, Nat.reduceEqDiff, Nat.reduceAdd, Nat.reduceMul, Nat.reduceSub, Nat.reduceBEq, Int.reduceLE, Int.reduceLT, Int.reduceToNat, Int.reduceNeg, Int.reduceEq, axt, ftK, ft3, pickP, AScope, AAll, pickQ, ftQ, inHeap, tys]
        refine ACallK.heap _ rfl (hcn) ?_; rintro r' H' n' ⟨rfl, eH, en⟩; obtain rfl := eH.symm; obtain rfl := en.symm; clear eH en; simp (maxSteps := 400000) (dsimp := false) only [axs, AThen, ABlock, dstsOk, AStep, callsF, AWant, aop, AS.ev, AS.put, upd, AS.bound, abin, aint, aload, astore, cellsAt, AV.cells, alen, elems, AV.int?, FPost, aresL, ares1, pack, afill, splice, Value.oneCell', Nat.reduceLT, Nat.reduceLeDiff, Nat.reduceEqDiff, Nat.reduceAdd, Nat.reduceMul, Nat.reduceSub, Nat.reduceBEq, Int.reduceLE, Int.reduceLT, Int.reduceToNat, Int.reduceNeg, Int.reduceEq, axt, ftK, ft3, pickP, AScope, AAll, pickQ, ftQ, inHeap, tys]
        rw [if_pos hfit] at hstep
        rw [hstep]
        refine ⟨hx, t2, t5, t7, by rw [hnx], h4, ?_, rfl, ?_, en, fun i hi hia his => ?_⟩
        · rw [if_neg (by omega), if_neg (by omega)]; exact b1
        · rw [if_neg (by omega)]; exact b3
        · rw [if_neg (by omega), if_neg his]; exact hkp i hi hia his
      · have hcn := cNext hu (by rw [hslen]; exact hp) (q := r) (by omega)
        rw [hslen] at hcn
        simp (maxSteps := 400000) (dsimp := false) only [hfit, t2, t8, b1, axs, AThen, ABlock, dstsOk, AStep, callsF, AWant, aop, AS.ev, AS.put, upd, AS.bound, abin, aint, aload, astore, cellsAt, AV.cells, alen, elems, AV.int?, FPost, aresL, ares1, pack, afill, splice, Value.oneCell', Nat.reduceLT, Nat.reduceLeDiff, Nat.reduceEqDiff, Nat.reduceAdd, Nat.reduceMul, Nat.reduceSub, Nat.reduceBEq, Int.reduceLE, Int.reduceLT, Int.reduceToNat, Int.reduceNeg, Int.reduceEq, axt, ftK, ft3, pickP, AScope, AAll, pickQ, ftQ, inHeap, tys]
        refine ACallK.heap _ rfl (hcn) ?_; rintro r' H' n' ⟨rfl, eH, en⟩; obtain rfl := eH.symm; obtain rfl := en.symm; clear eH en; simp (maxSteps := 400000) (dsimp := false) only [axs, AThen, ABlock, dstsOk, AStep, callsF, AWant, aop, AS.ev, AS.put, upd, AS.bound, abin, aint, aload, astore, cellsAt, AV.cells, alen, elems, AV.int?, FPost, aresL, ares1, pack, afill, splice, Value.oneCell', Nat.reduceLT, Nat.reduceLeDiff, Nat.reduceEqDiff, Nat.reduceAdd, Nat.reduceMul, Nat.reduceSub, Nat.reduceBEq, Int.reduceLE, Int.reduceLT, Int.reduceToNat, Int.reduceNeg, Int.reduceEq, axt, ftK, ft3, pickP, AScope, AAll, pickQ, ftQ, inHeap, tys]
        rw [if_neg hfit] at hstep
        rw [hstep]
        exact ⟨hx, t2, t5, t7, by rw [hnx], hu, b1, b2, b3, en, hkp⟩
    · have hjc : j = c := by omega
      have hoff : (sl T (adv T.length q (j + 1))).full = false := by rw [hjc]; exact hc.off
      rw [hoff] at hgu
      have hz : (TL P).set hole [.sc (.int .u64 0), .sc (.int .i32 0), .sc (.bool false)] = TL (P.set hole z3) := hset z3
      simp (maxSteps := 400000) (dsimp := false) only [t2, t5, t7, t8, b1, b2, b3, hua, hus, x0, x1, hgu, axs, AThen, ABlock, dstsOk, AStep, callsF, AWant, aop, AS.ev, AS.put, upd, AS.bound, abin, aint, aload, astore, cellsAt, AV.cells, alen, elems, AV.int?, FPost, aresL, ares1, pack, afill, splice, Value.oneCell', Nat.reduceLT, Nat.reduceLeDiff, Nat.reduceEqDiff, Nat.reduceAdd, Nat.reduceMul, Nat.reduceSub, Nat.reduceBEq, Int.reduceLE, Int.reduceLT, Int.reduceToNat, Int.reduceNeg, Int.reduceEq, axt, ftK, ft3, pickP, AScope, AAll, pickQ, ftQ, inHeap, tys]
      refine ADraw.planR [] [(0, true), (1, true), (2, true), (3, true), (4, true), (5, true), (6, true), (7, true)] [(0, false), (0, false), (0, false), (0, false), (0, false), (0, false), (0, false), (0, false)] mixed (by kernel_rfl) (by kernel_rfl) ?_
      simp (maxSteps := 400000) (dsimp := false) only [t2, t5, b1, b2, hua, hus, y0, y1, hgh, hz, axs, AThen, ABlock, dstsOk, AStep, callsF, AWant, aop, AS.ev, AS.put, upd, AS.bound, abin, aint, aload, astore, cellsAt, AV.cells, alen, elems, AV.int?, FPost, aresL, ares1, pack, afill, splice, Value.oneCell', Nat.reduceLT, Nat.reduceLeDiff, Nat.reduceEqDiff, Nat.reduceAdd, Nat.reduceMul, Nat.reduceSub, Nat.reduceBEq, Int.reduceLE, Int.reduceLT, Int.reduceToNat, Int.reduceNeg, Int.reduceEq, axt, ftK, ft3, pickP, AScope, AAll, pickQ, ftQ, inHeap, tys]
      have h5 := hu.setAt hole z3
      rw [hhjc hjc] at h5 ⊢
      rw [← p3] at h5
      refine ⟨_, rfl, rfl, by omega, fun i hi hia his => ?_, s, h5, .inl rfl⟩
      rw [upd_ne _ _ his, hkp i hi hia his]
end Go.Al
end
section
set_option linter.unusedVariables false
set_option linter.unusedSimpArgs false
set_option maxRecDepth 20000
set_option maxHeartbeats 1600000
-- axs, AThen, ABlock, dstsOk, AStep, callsF, AWant, aop, AS.ev, AS.put, upd, AS.bound, abin, aint, aload, astore, cellsAt, AV.cells, alen, elems, AV.int?, FPost, aresL, ares1, pack, afill, splice, Value.oneCell', Nat.reduceLT, Nat.reduceLeDiff, Nat.reduceEqDiff, Nat.reduceAdd, Nat.reduceMul, Nat.reduceSub, Nat.reduceBEq, Int.reduceLE, Int.reduceLT, Int.reduceToNat, Int.reduceNeg, Int.reduceEq, axt, ftK, ft3, pickP, AScope, AAll, pickQ, ftQ, inHeap, RT, Sl3.cells, tys: RT, Sl3.cells
-- NOIDS: noIdsE_TL
-- LENS: TL_len
namespace Go.Al
open Go.Proofs
/-- The reference's table. -/
def RT (T : Tb) : AV := .agg [.lst 3 (TL T)]
theorem rHtLook {T : Tb} (hp : Pw T.length) {k : Int} (hk : Key k) {q : Nat} (hq : IsFind T.length (hm T.length) T k q) :
    PCalls Try.prog 88 [RT T, .sc (.int .u64 k)] (.tup [.sc (.int .i64 q), .sc (.int .i64 (1 + (D T.length (hm T.length k) q : Int)))]) := by
  have hl := hp.le
  have hh : hm T.length k < T.length := hm_lt (by omega) k
  have e := hm_homeR hp hk
  have hD := D_lt hh hq.lt
  refine PCalls.intro2 Try.func88 rfl rfl Try.ntmps88 Try.results88 (by simp) fun n => ?_; simp (maxSteps := 400000) (dsimp := false) only [TL_len, axs, AThen, ABlock, dstsOk, AStep, callsF, AWant, aop, AS.ev, AS.put, upd, AS.bound, abin, aint, aload, astore, cellsAt, AV.cells, alen, elems, AV.int?, FPost, aresL, ares1, pack, afill, splice, Value.oneCell', Nat.reduceLT, Nat.reduceLeDiff, Nat.reduceEqDiff, Nat.reduceAdd, Nat.reduceMul, Nat.reduceSub, Nat.reduceBEq, Int.reduceLE, Int.reduceLT, Int.reduceToNat, Int.reduceNeg, Int.reduceEq, axt, ftK, ft3, pickP, AScope, AAll, pickQ, ftQ, inHeap, RT, Sl3.cells, tys]
  refine ACallK.strict rfl (f14 _ _) (by simp only [SeesL, e, axs, axt, AS.ev, AS.put, upd, inHeap, Nat.reduceLT, Nat.reduceEqDiff, Nat.reduceAdd, Nat.reduceBEq, RT, Sl3.cells]; repeat' (first | exact True.intro | exact Sees.sc | exact Sees.none | ((with_reducible refine Sees.same ?_) <;> simp [noIds, noIdsL, noIdsE, noIdsE_U, noIdsE_UU, noIdsE_TL] <;> fail) | (refine Live.sees ?_ ?_ <;> first | assumption | (simp [noIdsE_U, noIdsE_UU, noIdsE_TL] <;> fail)) | (refine Sees.obj ?_ ?_ ?_ <;> first | exact ⟨_, _, by assumption, rfl⟩ | (simp [U_len, UU_len, TL_len] <;> fail) | (simp [noIdsE_U, noIdsE_UU, noIdsE_TL] <;> fail) | (simp [U, UU, upd] <;> fail) | (simp [U, UU, upd, neS, *] <;> fail)) | (refine Sees.of_seen 3 ?_ <;> simp [seen, upd, noIdsE, noIdsL, noIds, U, UU, Nat.add_assoc] <;> fail) | refine Sees.agg ?_ | refine And.intro ?_ ?_ | simp only [SeesL])) ?_; simp (maxSteps := 400000) (dsimp := false) only [e, axs, AThen, ABlock, dstsOk, AStep, callsF, AWant, aop, AS.ev, AS.put, upd, AS.bound, abin, aint, aload, astore, cellsAt, AV.cells, alen, elems, AV.int?, FPost, aresL, ares1, pack, afill, splice, Value.oneCell', Nat.reduceLT, Nat.reduceLeDiff, Nat.reduceEqDiff, Nat.reduceAdd, Nat.reduceMul, Nat.reduceSub, Nat.reduceBEq, Int.reduceLE, Int.reduceLT, Int.reduceToNat, Int.reduceNeg, Int.reduceEq, axt, ftK, ft3, pickP, AScope, AAll, pickQ, ftQ, inHeap, RT, Sl3.cells, tys]
  refine ALoop.upto (D T.length (hm T.length k) q) (fun p st => st.t 1 = .sc (.int .u64 k) ∧ st.t 2 = .ptr n 1 0 0 ∧ st.t 6 = .sc (.int .i64 (adv T.length (hm T.length k) p)) ∧ st.t 7 = .sc (.int .i64 (p + 1 : Nat)) ∧ st.H n = some (.obj 29 1 [[.lst 3 (TL T)]] false)) ⟨rfl, rfl, by rw [adv_zero hh]; rfl, rfl, by simp [upd]⟩ ?_
  rintro p st hp' hb ⟨t1, t2, t6, t7, hn⟩
  have hat : adv T.length (hm T.length k) p < T.length := adv_lt hh (by omega)
  have hnx : p < D T.length (hm T.length k) q → adv T.length (hm T.length k) (p + 1) = adv T.length (adv T.length (hm T.length k) p) 1 := fun hx => adv_succ hh (by omega)
  have hmiss : p < D T.length (hm T.length k) q → (sl T (adv T.length (hm T.length k) p)).full = true ∧ (sl T (adv T.length (hm T.length k) p)).key ≠ k := fun hx => hq.miss _ hat (by rw [D_adv hh (by omega)]; exact hx)
  have hlast : ¬ p < D T.length (hm T.length k) q → adv T.length (hm T.length k) p = q := fun hx => by rw [show p = D T.length (hm T.length k) q by omega, adv_D hh hq.lt]
  generalize adv T.length (hm T.length k) p = r at *
  have hg := TL_get hat
  have r0 : (0 : Int) ≤ r := by omega
  have r1 : (r : Int) < T.length := by omega
  have c1 : ((p + 1 : Nat) : Int) ≤ (T.length : Int) := by omega
  have w1 : IntKind.i64.wrap (((p + 1 : Nat) : Int) + 1) = ((p + 1 + 1 : Nat) : Int) := by rw [wrap_in (by omega) (by omega)]; omega
  have w2 : IntKind.i64.wrap ((r : Int) + 1) = (r : Int) + 1 := wrap_in (by omega) (by omega)
  have w3 := rem_next hat
  have c2 : ¬ ((T.length : Int) = 0) := by omega
  by_cases hx : p < D T.length (hm T.length k) q
  · obtain ⟨m1, m2⟩ := hmiss hx
    simp (maxSteps := 400000) (dsimp := false) only [t1, t2, t6, t7, hn, hg, r0, r1, c1, w1, w2, w3, c2, m1, m2, TL_len, axs, AThen, ABlock, dstsOk, AStep, callsF, AWant, aop, AS.ev, AS.put, upd, AS.bound, abin, aint, aload, astore, cellsAt, AV.cells, alen, elems, AV.int?, FPost, aresL, ares1, pack, afill, splice, Value.oneCell', Nat.reduceLT, Nat.reduceLeDiff, Nat.reduceEqDiff, Nat.reduceAdd, Nat.reduceMul, Nat.reduceSub, Nat.reduceBEq, Int.reduceLE, Int.reduceLT, Int.reduceToNat, Int.reduceNeg, Int.reduceEq, axt, ftK, ft3, pickP, AScope, AAll, pickQ, ftQ, inHeap, RT, Sl3.cells, tys]
    rw [hnx hx]
    exact ⟨hx, rfl⟩
  · have hrq := hlast hx
    have hd : p = D T.length (hm T.length k) q := by omega
    subst hrq
    have hpe : ((p + 1 : Nat) : Int) = 1 + (D T.length (hm T.length k) r : Int) := by omega
    cases hf : (sl T r).full with
    | false =>
      simp (maxSteps := 400000) (dsimp := false) only [t1, t2, t6, t7, hn, hg, r0, r1, c1, hf, TL_len, axs, AThen, ABlock, dstsOk, AStep, callsF, AWant, aop, AS.ev, AS.put, upd, AS.bound, abin, aint, aload, astore, cellsAt, AV.cells, alen, elems, AV.int?, FPost, aresL, ares1, pack, afill, splice, Value.oneCell', Nat.reduceLT, Nat.reduceLeDiff, Nat.reduceEqDiff, Nat.reduceAdd, Nat.reduceMul, Nat.reduceSub, Nat.reduceBEq, Int.reduceLE, Int.reduceLT, Int.reduceToNat, Int.reduceNeg, Int.reduceEq, axt, ftK, ft3, pickP, AScope, AAll, pickQ, ftQ, inHeap, RT, Sl3.cells, tys]
      rw [hpe]
      refine ⟨_, rfl, ?_⟩; simp (maxSteps := 400000) (dsimp := false) only [SeesL, axs, AThen, ABlock, dstsOk, AStep, callsF, AWant, aop, AS.ev, AS.put, upd, AS.bound, abin, aint, aload, astore, cellsAt, AV.cells, alen, elems, AV.int?, FPost, aresL, ares1, pack, afill, splice, Value.oneCell', Nat.reduceLT, Nat.reduceLeDiff, Nat.reduceEqDiff, Nat.reduceAdd, Nat.reduceMul, Nat.reduceSub, Nat.reduceBEq, Int.reduceLE, Int.reduceLT, Int.reduceToNat, Int.reduceNeg, Int.reduceEq, axt, ftK, ft3, pickP, AScope, AAll, pickQ, ftQ, inHeap, RT, Sl3.cells, tys] <;> repeat' (first | exact True.intro | exact Sees.sc | exact Sees.none | ((with_reducible refine Sees.same ?_) <;> simp [noIds, noIdsL, noIdsE, noIdsE_U, noIdsE_UU, noIdsE_TL] <;> fail) | (refine Live.sees ?_ ?_ <;> first | assumption | (simp [noIdsE_U, noIdsE_UU, noIdsE_TL] <;> fail)) | (refine Sees.obj ?_ ?_ ?_ <;> first | exact ⟨_, _, by assumption, rfl⟩ | (simp [U_len, UU_len, TL_len] <;> fail) | (simp [noIdsE_U, noIdsE_UU, noIdsE_TL] <;> fail) | (simp [U, UU, upd, neS] <;> fail) | (simp [U, UU, upd, neS, *] <;> fail)) | refine Sees.agg ?_ | refine Sees.tup ?_ | refine And.intro ?_ ?_ | simp only [SeesL])
    | true =>
      have hkk : (sl T r).key = k := by
        rcases hq.hit with e2 | e2
        · rw [hf] at e2; cases e2
        · exact e2
      have hkk := eq_true hkk
      simp (maxSteps := 400000) (dsimp := false) only [t1, t2, t6, t7, hn, hg, r0, r1, c1, hf, hkk, TL_len, axs, AThen, ABlock, dstsOk, AStep, callsF, AWant, aop, AS.ev, AS.put, upd, AS.bound, abin, aint, aload, astore, cellsAt, AV.cells, alen, elems, AV.int?, FPost, aresL, ares1, pack, afill, splice, Value.oneCell', Nat.reduceLT, Nat.reduceLeDiff, Nat.reduceEqDiff, Nat.reduceAdd, Nat.reduceMul, Nat.reduceSub, Nat.reduceBEq, Int.reduceLE, Int.reduceLT, Int.reduceToNat, Int.reduceNeg, Int.reduceEq, axt, ftK, ft3, pickP, AScope, AAll, pickQ, ftQ, inHeap, RT, Sl3.cells, tys]
      rw [hpe]
      refine ⟨_, rfl, ?_⟩; simp (maxSteps := 400000) (dsimp := false) only [SeesL, axs, AThen, ABlock, dstsOk, AStep, callsF, AWant, aop, AS.ev, AS.put, upd, AS.bound, abin, aint, aload, astore, cellsAt, AV.cells, alen, elems, AV.int?, FPost, aresL, ares1, pack, afill, splice, Value.oneCell', Nat.reduceLT, Nat.reduceLeDiff, Nat.reduceEqDiff, Nat.reduceAdd, Nat.reduceMul, Nat.reduceSub, Nat.reduceBEq, Int.reduceLE, Int.reduceLT, Int.reduceToNat, Int.reduceNeg, Int.reduceEq, axt, ftK, ft3, pickP, AScope, AAll, pickQ, ftQ, inHeap, RT, Sl3.cells, tys] <;> repeat' (first | exact True.intro | exact Sees.sc | exact Sees.none | ((with_reducible refine Sees.same ?_) <;> simp [noIds, noIdsL, noIdsE, noIdsE_U, noIdsE_UU, noIdsE_TL] <;> fail) | (refine Live.sees ?_ ?_ <;> first | assumption | (simp [noIdsE_U, noIdsE_UU, noIdsE_TL] <;> fail)) | (refine Sees.obj ?_ ?_ ?_ <;> first | exact ⟨_, _, by assumption, rfl⟩ | (simp [U_len, UU_len, TL_len] <;> fail) | (simp [noIdsE_U, noIdsE_UU, noIdsE_TL] <;> fail) | (simp [U, UU, upd, neS] <;> fail) | (simp [U, UU, upd, neS, *] <;> fail)) | refine Sees.agg ?_ | refine Sees.tup ?_ | refine And.intro ?_ ?_ | simp only [SeesL])
theorem rHtGet {T : Tb} (hp : Pw T.length) {k : Int} (hk : Key k) {q : Nat} (hq : IsFind T.length (hm T.length) T k q) :
    PCalls Try.prog 85 [RT T, .sc (.int .u64 k)] (.tup (getF T q)) := by
  have hg := TL_get hq.lt
  have r0 : (0 : Int) ≤ q := by omega
  have r1 : (q : Int) < T.length := by have := hq.lt; omega
  refine PCalls.intro2 Try.func85 rfl rfl Try.ntmps85 Try.results85 (by simp) fun n => ?_; simp (maxSteps := 400000) (dsimp := false) only [axs, AThen, ABlock, dstsOk, AStep, callsF, AWant, aop, AS.ev, AS.put, upd, AS.bound, abin, aint, aload, astore, cellsAt, AV.cells, alen, elems, AV.int?, FPost, aresL, ares1, pack, afill, splice, Value.oneCell', Nat.reduceLT, Nat.reduceLeDiff, Nat.reduceEqDiff, Nat.reduceAdd, Nat.reduceMul, Nat.reduceSub, Nat.reduceBEq, Int.reduceLE, Int.reduceLT, Int.reduceToNat, Int.reduceNeg, Int.reduceEq, axt, ftK, ft3, pickP, AScope, AAll, pickQ, ftQ, inHeap, RT, Sl3.cells, tys]
  refine ACallK.strict rfl (rHtLook hp hk hq) (by simp only [SeesL, axs, axt, AS.ev, AS.put, upd, inHeap, Nat.reduceLT, Nat.reduceEqDiff, Nat.reduceAdd, Nat.reduceBEq, RT, Sl3.cells]; repeat' (first | exact True.intro | exact Sees.sc | exact Sees.none | ((with_reducible refine Sees.same ?_) <;> simp [noIds, noIdsL, noIdsE, noIdsE_U, noIdsE_UU, noIdsE_TL] <;> fail) | (refine Live.sees ?_ ?_ <;> first | assumption | (simp [noIdsE_U, noIdsE_UU, noIdsE_TL] <;> fail)) | (refine Sees.obj ?_ ?_ ?_ <;> first | exact ⟨_, _, by assumption, rfl⟩ | (simp [U_len, UU_len, TL_len] <;> fail) | (simp [noIdsE_U, noIdsE_UU, noIdsE_TL] <;> fail) | (simp [U, UU, upd] <;> fail) | (simp [U, UU, upd, neS, *] <;> fail)) | (refine Sees.of_seen 3 ?_ <;> simp [seen, upd, noIdsE, noIdsL, noIds, U, UU, Nat.add_assoc] <;> fail) | refine Sees.agg ?_ | refine And.intro ?_ ?_ | simp only [SeesL])) ?_; simp (maxSteps := 400000) (dsimp := false) only [axs, AThen, ABlock, dstsOk, AStep, callsF, AWant, aop, AS.ev, AS.put, upd, AS.bound, abin, aint, aload, astore, cellsAt, AV.cells, alen, elems, AV.int?, FPost, aresL, ares1, pack, afill, splice, Value.oneCell', Nat.reduceLT, Nat.reduceLeDiff, Nat.reduceEqDiff, Nat.reduceAdd, Nat.reduceMul, Nat.reduceSub, Nat.reduceBEq, Int.reduceLE, Int.reduceLT, Int.reduceToNat, Int.reduceNeg, Int.reduceEq, axt, ftK, ft3, pickP, AScope, AAll, pickQ, ftQ, inHeap, RT, Sl3.cells, tys]
  refine ADraw.planR [] [(0, true), (1, true), (2, true), (3, true), (4, true), (5, true), (6, true), (7, true), (8, true), (9, true), (10, true), (11, true), (12, true), (13, true)] [(0, false), (0, false), (0, false), (0, false), (0, false), (0, false), (0, false), (0, false), (0, false), (0, false), (0, false), (0, false), (0, false), (0, false)] mixed (by kernel_rfl) (by kernel_rfl) ?_
  simp (maxSteps := 400000) (dsimp := false) only [hg, r0, r1, TL_len, axs, AThen, ABlock, dstsOk, AStep, callsF, AWant, aop, AS.ev, AS.put, upd, AS.bound, abin, aint, aload, astore, cellsAt, AV.cells, alen, elems, AV.int?, FPost, aresL, ares1, pack, afill, splice, Value.oneCell', Nat.reduceLT, Nat.reduceLeDiff, Nat.reduceEqDiff, Nat.reduceAdd, Nat.reduceMul, Nat.reduceSub, Nat.reduceBEq, Int.reduceLE, Int.reduceLT, Int.reduceToNat, Int.reduceNeg, Int.reduceEq, axt, ftK, ft3, pickP, AScope, AAll, pickQ, ftQ, inHeap, RT, Sl3.cells, tys]
  refine ⟨_, rfl, ?_⟩; simp (maxSteps := 400000) (dsimp := false) only [SeesL, getF, axs, AThen, ABlock, dstsOk, AStep, callsF, AWant, aop, AS.ev, AS.put, upd, AS.bound, abin, aint, aload, astore, cellsAt, AV.cells, alen, elems, AV.int?, FPost, aresL, ares1, pack, afill, splice, Value.oneCell', Nat.reduceLT, Nat.reduceLeDiff, Nat.reduceEqDiff, Nat.reduceAdd, Nat.reduceMul, Nat.reduceSub, Nat.reduceBEq, Int.reduceLE, Int.reduceLT, Int.reduceToNat, Int.reduceNeg, Int.reduceEq, axt, ftK, ft3, pickP, AScope, AAll, pickQ, ftQ, inHeap, RT, Sl3.cells, tys] <;> repeat' (first | exact True.intro | exact Sees.sc | exact Sees.none | ((with_reducible refine Sees.same ?_) <;> simp [noIds, noIdsL, noIdsE, noIdsE_U, noIdsE_UU, noIdsE_TL] <;> fail) | (refine Live.sees ?_ ?_ <;> first | assumption | (simp [noIdsE_U, noIdsE_UU, noIdsE_TL] <;> fail)) | (refine Sees.obj ?_ ?_ ?_ <;> first | exact ⟨_, _, by assumption, rfl⟩ | (simp [U_len, UU_len, TL_len] <;> fail) | (simp [noIdsE_U, noIdsE_UU, noIdsE_TL] <;> fail) | (simp [U, UU, upd, neS] <;> fail) | (simp [U, UU, upd, neS, *] <;> fail)) | refine Sees.agg ?_ | refine Sees.tup ?_ | refine And.intro ?_ ?_ | simp only [SeesL])
theorem cnt_take {T : Tb} {p : Nat} (hp : p < T.length) : (T.take (p + 1)).countP (·.full) = (T.take p).countP (·.full) + if (sl T p).full then 1 else 0 := by
  have : T.take (p + 1) = T.take p ++ [sl T p] := by rw [List.take_add_one, sl_get hp]; rfl
  rw [this, List.countP_append, List.countP_singleton]
theorem rHtLen {T : Tb} (hp : Pw T.length) : PCalls Try.prog 86 [RT T] (.sc (.int .i64 (cnt T))) := by
  have hl := hp.le
  refine PCalls.intro2 Try.func86 rfl rfl Try.ntmps86 Try.results86 (by simp) fun n => ?_; simp (maxSteps := 400000) (dsimp := false) only [axs, AThen, ABlock, dstsOk, AStep, callsF, AWant, aop, AS.ev, AS.put, upd, AS.bound, abin, aint, aload, astore, cellsAt, AV.cells, alen, elems, AV.int?, FPost, aresL, ares1, pack, afill, splice, Value.oneCell', Nat.reduceLT, Nat.reduceLeDiff, Nat.reduceEqDiff, Nat.reduceAdd, Nat.reduceMul, Nat.reduceSub, Nat.reduceBEq, Int.reduceLE, Int.reduceLT, Int.reduceToNat, Int.reduceNeg, Int.reduceEq, axt, ftK, ft3, pickP, AScope, AAll, pickQ, ftQ, inHeap, RT, Sl3.cells, tys]
  refine ALoop.upto T.length (fun p st => st.t 1 = .ptr n 1 0 0 ∧ st.t 3 = .sc (.int .i64 ((T.take p).countP (·.full) : Nat)) ∧ st.t 4 = .sc (.int .i64 p) ∧ st.H n = some (.obj 29 1 [[.lst 3 (TL T)]] false)) ⟨rfl, rfl, rfl, by simp [upd]⟩ ?_
  rintro p st hp' hb ⟨t1, t3, t4, hn⟩
  have hcl : (T.take p).countP (·.full) ≤ (T.take p).length := List.countP_le_length
  have hct := fun hx : p < T.length => cnt_take hx
  have htl : (T.take p).length ≤ T.length := by simp; omega
  have hall : ¬ p < T.length → (T.take p).countP (·.full) = cnt T := fun hx => by rw [List.take_of_length_le (by omega)]; rfl
  generalize (T.take p).countP (·.full) = m at *
  by_cases hx : p < T.length
  · have x1 : (p : Int) < T.length := by omega
    have x0 : (0 : Int) ≤ p := by omega
    have hg := TL_get hx
    have w1 : IntKind.i64.wrap ((p : Int) + 1) = ((p + 1 : Nat) : Int) := by rw [wrap_in (by omega) (by omega)]; omega
    have w2 : IntKind.i64.wrap ((m : Int) + 1) = ((m + 1 : Nat) : Int) := by rw [wrap_in (by omega) (by omega)]; omega
    have hct := hct hx
    cases hf : (sl T p).full with
    | true =>
      rw [hf, if_pos rfl] at hct
      simp (maxSteps := 400000) (dsimp := false) only [t1, t3, t4, hn, hg, x0, x1, hf, w1, w2, TL_len, axs, AThen, ABlock, dstsOk, AStep, callsF, AWant, aop, AS.ev, AS.put, upd, AS.bound, abin, aint, aload, astore, cellsAt, AV.cells, alen, elems, AV.int?, FPost, aresL, ares1, pack, afill, splice, Value.oneCell', Nat.reduceLT, Nat.reduceLeDiff, Nat.reduceEqDiff, Nat.reduceAdd, Nat.reduceMul, Nat.reduceSub, Nat.reduceBEq, Int.reduceLE, Int.reduceLT, Int.reduceToNat, Int.reduceNeg, Int.reduceEq, axt, ftK, ft3, pickP, AScope, AAll, pickQ, ftQ, inHeap, RT, Sl3.cells, tys]
      rw [hct]
      exact ⟨hx, rfl⟩
    | false =>
      rw [hf] at hct
      simp only [Bool.false_eq_true, if_false, Nat.add_zero] at hct
      simp (maxSteps := 400000) (dsimp := false) only [t1, t3, t4, hn, hg, x0, x1, hf, w1, w2, TL_len, axs, AThen, ABlock, dstsOk, AStep, callsF, AWant, aop, AS.ev, AS.put, upd, AS.bound, abin, aint, aload, astore, cellsAt, AV.cells, alen, elems, AV.int?, FPost, aresL, ares1, pack, afill, splice, Value.oneCell', Nat.reduceLT, Nat.reduceLeDiff, Nat.reduceEqDiff, Nat.reduceAdd, Nat.reduceMul, Nat.reduceSub, Nat.reduceBEq, Int.reduceLE, Int.reduceLT, Int.reduceToNat, Int.reduceNeg, Int.reduceEq, axt, ftK, ft3, pickP, AScope, AAll, pickQ, ftQ, inHeap, RT, Sl3.cells, tys]
      rw [hct]
      exact ⟨hx, rfl⟩
  · have x1 : ¬ (p : Int) < T.length := by omega
    rw [← hall hx]
    simp (maxSteps := 400000) (dsimp := false) only [t1, t3, t4, hn, x1, TL_len, axs, AThen, ABlock, dstsOk, AStep, callsF, AWant, aop, AS.ev, AS.put, upd, AS.bound, abin, aint, aload, astore, cellsAt, AV.cells, alen, elems, AV.int?, FPost, aresL, ares1, pack, afill, splice, Value.oneCell', Nat.reduceLT, Nat.reduceLeDiff, Nat.reduceEqDiff, Nat.reduceAdd, Nat.reduceMul, Nat.reduceSub, Nat.reduceBEq, Int.reduceLE, Int.reduceLT, Int.reduceToNat, Int.reduceNeg, Int.reduceEq, axt, ftK, ft3, pickP, AScope, AAll, pickQ, ftQ, inHeap, RT, Sl3.cells, tys]
    refine ⟨_, rfl, ?_⟩; simp (maxSteps := 400000) (dsimp := false) only [SeesL, axs, AThen, ABlock, dstsOk, AStep, callsF, AWant, aop, AS.ev, AS.put, upd, AS.bound, abin, aint, aload, astore, cellsAt, AV.cells, alen, elems, AV.int?, FPost, aresL, ares1, pack, afill, splice, Value.oneCell', Nat.reduceLT, Nat.reduceLeDiff, Nat.reduceEqDiff, Nat.reduceAdd, Nat.reduceMul, Nat.reduceSub, Nat.reduceBEq, Int.reduceLE, Int.reduceLT, Int.reduceToNat, Int.reduceNeg, Int.reduceEq, axt, ftK, ft3, pickP, AScope, AAll, pickQ, ftQ, inHeap, RT, Sl3.cells, tys] <;> repeat' (first | exact True.intro | exact Sees.sc | exact Sees.none | ((with_reducible refine Sees.same ?_) <;> simp [noIds, noIdsL, noIdsE, noIdsE_U, noIdsE_UU, noIdsE_TL] <;> fail) | (refine Live.sees ?_ ?_ <;> first | assumption | (simp [noIdsE_U, noIdsE_UU, noIdsE_TL] <;> fail)) | (refine Sees.obj ?_ ?_ ?_ <;> first | exact ⟨_, _, by assumption, rfl⟩ | (simp [U_len, UU_len, TL_len] <;> fail) | (simp [noIdsE_U, noIdsE_UU, noIdsE_TL] <;> fail) | (simp [U, UU, upd, neS] <;> fail) | (simp [U, UU, upd, neS, *] <;> fail)) | refine Sees.agg ?_ | refine Sees.tup ?_ | refine And.intro ?_ ?_ | simp only [SeesL])
theorem rHtLay {T : Tb} (hp : Pw T.length) (hr : Room T.length T) (x : Sl3) (hk : Key x.key) :
    PCalls Try.prog 87 [RT T, .agg x.cells] (RT (lay1 T.length (hm T.length) T x)) := by
  have hl := hp.le
  have hq := hFind_room (k := x.key) (hm_lt (by omega) _) hr
  have hlk := rHtLook hp hk hq
  unfold lay1
  generalize hFind T.length (hm T.length) T x.key = q at *
  have hg := TL_get hq.lt
  have r0 : (0 : Int) ≤ q := by omega
  have r1 : (q : Int) < T.length := by have := hq.lt; omega
  have b1 : T.length * 16 ≤ 140737488355328 := by omega
  have b2 : T.length ≤ 1099511627776 := by omega
  have hset := TL_set T q x
  refine PCalls.intro2 Try.func87 rfl rfl Try.ntmps87 Try.results87 (by simp) fun n => ?_; simp (maxSteps := 400000) (dsimp := false) only [axs, AThen, ABlock, dstsOk, AStep, callsF, AWant, aop, AS.ev, AS.put, upd, AS.bound, abin, aint, aload, astore, cellsAt, AV.cells, alen, elems, AV.int?, FPost, aresL, ares1, pack, afill, splice, Value.oneCell', Nat.reduceLT, Nat.reduceLeDiff, Nat.reduceEqDiff, Nat.reduceAdd, Nat.reduceMul, Nat.reduceSub, Nat.reduceBEq, Int.reduceLE, Int.reduceLT, Int.reduceToNat, Int.reduceNeg, Int.reduceEq, axt, ftK, ft3, pickP, AScope, AAll, pickQ, ftQ, inHeap, RT, Sl3.cells, tys]
  refine ACallK.strict rfl (hlk) (by simp only [SeesL, axs, axt, AS.ev, AS.put, upd, inHeap, Nat.reduceLT, Nat.reduceEqDiff, Nat.reduceAdd, Nat.reduceBEq, RT, Sl3.cells]; repeat' (first | exact True.intro | exact Sees.sc | exact Sees.none | ((with_reducible refine Sees.same ?_) <;> simp [noIds, noIdsL, noIdsE, noIdsE_U, noIdsE_UU, noIdsE_TL] <;> fail) | (refine Live.sees ?_ ?_ <;> first | assumption | (simp [noIdsE_U, noIdsE_UU, noIdsE_TL] <;> fail)) | (refine Sees.obj ?_ ?_ ?_ <;> first | exact ⟨_, _, by assumption, rfl⟩ | (simp [U_len, UU_len, TL_len] <;> fail) | (simp [noIdsE_U, noIdsE_UU, noIdsE_TL] <;> fail) | (simp [U, UU, upd] <;> fail) | (simp [U, UU, upd, neS, *] <;> fail)) | (refine Sees.of_seen 3 ?_ <;> simp [seen, upd, noIdsE, noIdsL, noIds, U, UU, Nat.add_assoc] <;> fail) | refine Sees.agg ?_ | refine And.intro ?_ ?_ | simp only [SeesL])) ?_; simp (maxSteps := 400000) (dsimp := false) only [axs, AThen, ABlock, dstsOk, AStep, callsF, AWant, aop, AS.ev, AS.put, upd, AS.bound, abin, aint, aload, astore, cellsAt, AV.cells, alen, elems, AV.int?, FPost, aresL, ares1, pack, afill, splice, Value.oneCell', Nat.reduceLT, Nat.reduceLeDiff, Nat.reduceEqDiff, Nat.reduceAdd, Nat.reduceMul, Nat.reduceSub, Nat.reduceBEq, Int.reduceLE, Int.reduceLT, Int.reduceToNat, Int.reduceNeg, Int.reduceEq, axt, ftK, ft3, pickP, AScope, AAll, pickQ, ftQ, inHeap, RT, Sl3.cells, tys]
  simp (maxSteps := 400000) (dsimp := false) only [hg, r0, r1, b1, b2, hset, TL_len, axs, AThen, ABlock, dstsOk, AStep, callsF, AWant, aop, AS.ev, AS.put, upd, AS.bound, abin, aint, aload, astore, cellsAt, AV.cells, alen, elems, AV.int?, FPost, aresL, ares1, pack, afill, splice, Value.oneCell', Nat.reduceLT, Nat.reduceLeDiff, Nat.reduceEqDiff, Nat.reduceAdd, Nat.reduceMul, Nat.reduceSub, Nat.reduceBEq, Int.reduceLE, Int.reduceLT, Int.reduceToNat, Int.reduceNeg, Int.reduceEq, axt, ftK, ft3, pickP, AScope, AAll, pickQ, ftQ, inHeap, RT, Sl3.cells, tys]
  refine ⟨_, rfl, ?_⟩; simp (maxSteps := 400000) (dsimp := false) only [SeesL, axs, AThen, ABlock, dstsOk, AStep, callsF, AWant, aop, AS.ev, AS.put, upd, AS.bound, abin, aint, aload, astore, cellsAt, AV.cells, alen, elems, AV.int?, FPost, aresL, ares1, pack, afill, splice, Value.oneCell', Nat.reduceLT, Nat.reduceLeDiff, Nat.reduceEqDiff, Nat.reduceAdd, Nat.reduceMul, Nat.reduceSub, Nat.reduceBEq, Int.reduceLE, Int.reduceLT, Int.reduceToNat, Int.reduceNeg, Int.reduceEq, axt, ftK, ft3, pickP, AScope, AAll, pickQ, ftQ, inHeap, RT, Sl3.cells, tys] <;> repeat' (first | exact True.intro | exact Sees.sc | exact Sees.none | ((with_reducible refine Sees.same ?_) <;> simp [noIds, noIdsL, noIdsE, noIdsE_U, noIdsE_UU, noIdsE_TL] <;> fail) | (refine Live.sees ?_ ?_ <;> first | assumption | (simp [noIdsE_U, noIdsE_UU, noIdsE_TL] <;> fail)) | (refine Sees.obj ?_ ?_ ?_ <;> first | exact ⟨_, _, by assumption, rfl⟩ | (simp [U_len, UU_len, TL_len] <;> fail) | (simp [noIdsE_U, noIdsE_UU, noIdsE_TL] <;> fail) | (simp [U, UU, upd, neS] <;> fail) | (simp [U, UU, upd, neS, *] <;> fail)) | refine Sees.agg ?_ | refine Sees.tup ?_ | refine And.intro ?_ ?_ | simp only [SeesL])
theorem rHtNew : PCalls Try.prog 35 [] (RT (List.replicate 8 z3)) := by
  refine PCalls.intro2 Try.func35 rfl rfl Try.ntmps35 Try.results35 (by simp) fun n => ?_
  generalize hC : (8 : Int) = C; revert C; refine aside _ ?_; intro C hC
  obtain ⟨m, hm⟩ : ∃ m : Nat, C = m := ⟨8, by omega⟩
  subst hm
  have hm8 : m = 8 := by omega
  have b1 : (0 : Int) ≤ (m : Int) := by omega
  have b2 : (m : Int) * 16 ≤ 140737488355328 := by omega
  have b3 : (m : Int) ≤ 1099511627776 := by omega
  have hrep := TL_rep m
  rw [← hm8]
  simp (maxSteps := 400000) (dsimp := false) only [b1, b2, b3, hrep, axs, AThen, ABlock, dstsOk, AStep, callsF, AWant, aop, AS.ev, AS.put, upd, AS.bound, abin, aint, aload, astore, cellsAt, AV.cells, alen, elems, AV.int?, FPost, aresL, ares1, pack, afill, splice, Value.oneCell', Nat.reduceLT, Nat.reduceLeDiff, Nat.reduceEqDiff, Nat.reduceAdd, Nat.reduceMul, Nat.reduceSub, Nat.reduceBEq, Int.reduceLE, Int.reduceLT, Int.reduceToNat, Int.reduceNeg, Int.reduceEq, axt, ftK, ft3, pickP, AScope, AAll, pickQ, ftQ, inHeap, RT, Sl3.cells, tys]
  refine ⟨_, rfl, ?_⟩; simp (maxSteps := 400000) (dsimp := false) only [SeesL, List.length_replicate, axs, AThen, ABlock, dstsOk, AStep, callsF, AWant, aop, AS.ev, AS.put, upd, AS.bound, abin, aint, aload, astore, cellsAt, AV.cells, alen, elems, AV.int?, FPost, aresL, ares1, pack, afill, splice, Value.oneCell', Nat.reduceLT, Nat.reduceLeDiff, Nat.reduceEqDiff, Nat.reduceAdd, Nat.reduceMul, Nat.reduceSub, Nat.reduceBEq, Int.reduceLE, Int.reduceLT, Int.reduceToNat, Int.reduceNeg, Int.reduceEq, axt, ftK, ft3, pickP, AScope, AAll, pickQ, ftQ, inHeap, RT, Sl3.cells, tys] <;> repeat' (first | exact True.intro | exact Sees.sc | exact Sees.none | ((with_reducible refine Sees.same ?_) <;> simp [noIds, noIdsL, noIdsE, noIdsE_U, noIdsE_UU, noIdsE_TL] <;> fail) | (refine Live.sees ?_ ?_ <;> first | assumption | (simp [noIdsE_U, noIdsE_UU, noIdsE_TL] <;> fail)) | (refine Sees.obj ?_ ?_ ?_ <;> first | exact ⟨_, _, by assumption, rfl⟩ | (simp [U_len, UU_len, TL_len] <;> fail) | (simp [noIdsE_U, noIdsE_UU, noIdsE_TL] <;> fail) | (simp [U, UU, upd, neS] <;> fail) | (simp [U, UU, upd, neS, *] <;> fail)) | refine Sees.agg ?_ | refine Sees.tup ?_ | refine And.intro ?_ ?_ | simp only [SeesL])
def newH (H : AH) (n : Nat) : AH := upd (upd H n (some (.obj 130 3 (TL (List.replicate 8 z3)) false))) (n + 1) (some (.obj 106 2 [[.sl n 3 0 8, .sc (.int .i64 0)]] false))
theorem cHtNew (H : AH) (n : Nat) : HCalls Try.prog 34 [] H n fun r H' n' => r = .ptr (n + 1) 2 0 0 ∧ H' = newH H n ∧ n' = n + 1 + 1 := by
  unfold newH
  refine HCalls.walk Try.func34 rfl rfl Try.ntmps34 Try.results34 (by simp) ?_
  generalize hC : (8 : Int) = C; revert C; refine aside _ ?_; intro C hC
  obtain ⟨m, hm⟩ : ∃ m : Nat, C = m := ⟨8, by omega⟩
  subst hm
  have hm8 : m = 8 := by omega
  have b1 : (0 : Int) ≤ (m : Int) := by omega
  have b2 : (m : Int) * 16 ≤ 140737488355328 := by omega
  have b3 : (m : Int) ≤ 1099511627776 := by omega
  have hrep := TL_rep m
  rw [← hm8]
  simp (maxSteps := 400000) (dsimp := false) only [b1, b2, b3, hrep, axs, AThen, ABlock, dstsOk, AStep, callsF, AWant, aop, AS.ev, AS.put, upd, AS.bound, abin, aint, aload, astore, cellsAt, AV.cells, alen, elems, AV.int?, FPost, aresL, ares1, pack, afill, splice, Value.oneCell', Nat.reduceLT, Nat.reduceLeDiff, Nat.reduceEqDiff, Nat.reduceAdd, Nat.reduceMul, Nat.reduceSub, Nat.reduceBEq, Int.reduceLE, Int.reduceLT, Int.reduceToNat, Int.reduceNeg, Int.reduceEq, axt, ftK, ft3, pickP, AScope, AAll, pickQ, ftQ, inHeap, RT, Sl3.cells, tys]
  exact ⟨_, rfl, rfl⟩
theorem newH_is (H : AH) (n : Nat) : HtH (newH H n) (n + 1 + 1) (n + 1) n (List.replicate 8 z3) ((cnt (List.replicate 8 z3) : Nat) : Int) :=
  ⟨by rw [empty_cnt, newH, upd_same]; rfl, by rw [newH, upd_ne _ _ (by omega), upd_same], by omega, by omega⟩
theorem newH_keeps (H : AH) (n : Nat) : Keeps H n (newH H n) (n + 1 + 1) := (Keeps.refl H n).upd.upd
end Go.Al
end
section
set_option linter.unusedVariables false
set_option linter.unusedSimpArgs false
set_option maxRecDepth 20000
set_option maxHeartbeats 1600000
-- axs, AThen, ABlock, dstsOk, AStep, callsF, AWant, aop, AS.ev, AS.put, upd, AS.bound, abin, aint, aload, astore, cellsAt, AV.cells, alen, elems, AV.int?, FPost, aresL, ares1, pack, afill, splice, Value.oneCell', Nat.reduceLT, Nat.reduceLeDiff, Nat.reduceEqDiff, Nat.reduceAdd, Nat.reduceMul, Nat.reduceSub, Nat.reduceBEq, Int.reduceLE, Int.reduceLT, Int.reduceToNat, Int.reduceNeg, Int.reduceEq, axt, ftK, ft3, pickP, AScope, AAll, pickQ, ftQ, inHeap, RT, Sl3.cells, tys: RT, Sl3.cells
-- NOIDS: noIdsE_TL
-- LENS: TL_len
namespace Go.Al
open Go.Proofs
/-- A row that is still being built, at id, or one that is frozen. -/
def TabV (te id : Nat) (H : AH) (U : Tb) (v : AV) : Prop := v = .lst 3 (TL U) ∨ (v = .sl id 3 0 U.length ∧ H id = some (.obj te 3 (TL U) true))
theorem hPut_lay {T : Tb} (ok : HOk T) (hsm : T.length ≤ 524288) {k : Int} (x : Int) : hPut T k x = lay1 (putT T k).length (hm (putT T k).length) (putT T k) ⟨k, x, true⟩ := rfl
theorem rHtPut {T : Tb} (ok : HOk T) (hsm : T.length ≤ 524288) {k : Int} (hk : Key k) (x : Int) :
    PCalls Try.prog 65 [RT T, .sc (.int .u64 k), .sc (.int .i32 x)] (RT (hPut T k x)) := by
  have hp := ok.pw
  have hl := hp.le
  have hq := ok.find k
  have hcl := cnt_le T
  have hget := rHtGet hp hk hq
  have hlen := rHtLen (T := T) hp
  have w2 : IntKind.i64.wrap (4 * (cnt T : Int)) = 4 * (cnt T : Int) := wrap_in (by omega) (by omega)
  have w3 : IntKind.i64.wrap (4 * (cnt T : Int) + 4) = 4 * (cnt T : Int) + 4 := wrap_in (by omega) (by omega)
  have w4 : IntKind.i64.wrap (3 * (T.length : Int)) = 3 * (T.length : Int) := wrap_in (by omega) (by omega)
  have w2' : IntKind.i64.wrap ((cnt T : Int) * 4) = 4 * (cnt T : Int) := by rw [wrap_in (by omega) (by omega)]; omega
  have w4' : IntKind.i64.wrap ((T.length : Int) * 3) = 3 * (T.length : Int) := by rw [wrap_in (by omega) (by omega)]; omega
  have w1 : IntKind.i64.wrap ((T.length : Int) * 2) = ((2 * T.length : Nat) : Int) := by rw [wrap_in (by omega) (by omega)]; omega
  have w1' : IntKind.i64.wrap (2 * (T.length : Int)) = ((2 * T.length : Nat) : Int) := by rw [wrap_in (by omega) (by omega)]; omega
  have b1 : (0 : Int) ≤ ((2 * T.length : Nat) : Int) := by omega
  have b2 : ((2 * T.length : Nat) : Int) * 16 ≤ 140737488355328 := by omega
  have b3 : ((2 * T.length : Nat) : Int) ≤ 1099511627776 := by omega
  have hrep := TL_rep (2 * T.length)
  obtain ⟨g1, g2, g3, g4, g5⟩ := putT_all ok hsm k
  have hlast := rHtLay g1.pw g1.room ⟨k, x, true⟩ hk
  have hpu := hPut_lay ok hsm (k := k) x
  rw [← hpu] at hlast
  refine PCalls.intro2 Try.func65 rfl rfl Try.ntmps65 Try.results65 (by simp) fun n => ?_; simp (maxSteps := 400000) (dsimp := false) only [axs, AThen, ABlock, dstsOk, AStep, callsF, AWant, aop, AS.ev, AS.put, upd, AS.bound, abin, aint, aload, astore, cellsAt, AV.cells, alen, elems, AV.int?, FPost, aresL, ares1, pack, afill, splice, Value.oneCell', Nat.reduceLT, Nat.reduceLeDiff, Nat.reduceEqDiff, Nat.reduceAdd, Nat.reduceMul, Nat.reduceSub, Nat.reduceBEq, Int.reduceLE, Int.reduceLT, Int.reduceToNat, Int.reduceNeg, Int.reduceEq, axt, ftK, ft3, pickP, AScope, AAll, pickQ, ftQ, inHeap, RT, Sl3.cells, tys]
  refine ACallK.strict rfl (hget) (by simp only [SeesL, getF, axs, axt, AS.ev, AS.put, upd, inHeap, Nat.reduceLT, Nat.reduceEqDiff, Nat.reduceAdd, Nat.reduceBEq, RT, Sl3.cells]; repeat' (first | exact True.intro | exact Sees.sc | exact Sees.none | ((with_reducible refine Sees.same ?_) <;> simp [noIds, noIdsL, noIdsE, noIdsE_U, noIdsE_UU, noIdsE_TL] <;> fail) | (refine Live.sees ?_ ?_ <;> first | assumption | (simp [noIdsE_U, noIdsE_UU, noIdsE_TL] <;> fail)) | (refine Sees.obj ?_ ?_ ?_ <;> first | exact ⟨_, _, by assumption, rfl⟩ | (simp [U_len, UU_len, TL_len] <;> fail) | (simp [noIdsE_U, noIdsE_UU, noIdsE_TL] <;> fail) | (simp [U, UU, upd] <;> fail) | (simp [U, UU, upd, neS, *] <;> fail)) | (refine Sees.of_seen 3 ?_ <;> simp [seen, upd, noIdsE, noIdsL, noIds, U, UU, Nat.add_assoc] <;> fail) | refine Sees.agg ?_ | refine And.intro ?_ ?_ | simp only [SeesL])) ?_; simp (maxSteps := 400000) (dsimp := false) only [getF, axs, AThen, ABlock, dstsOk, AStep, callsF, AWant, aop, AS.ev, AS.put, upd, AS.bound, abin, aint, aload, astore, cellsAt, AV.cells, alen, elems, AV.int?, FPost, aresL, ares1, pack, afill, splice, Value.oneCell', Nat.reduceLT, Nat.reduceLeDiff, Nat.reduceEqDiff, Nat.reduceAdd, Nat.reduceMul, Nat.reduceSub, Nat.reduceBEq, Int.reduceLE, Int.reduceLT, Int.reduceToNat, Int.reduceNeg, Int.reduceEq, axt, ftK, ft3, pickP, AScope, AAll, pickQ, ftQ, inHeap, RT, Sl3.cells, tys]
  cases hf : (sl T (hF T k)).full with
  | true =>
    have hT : putT T k = T := by unfold putT; rw [if_pos hf]
    rw [hT] at hlast
    refine ADraw.planR [] [(0, true), (1, true), (2, true), (3, true), (4, true), (5, true), (6, true), (7, true), (8, true), (9, true), (10, true), (11, true), (12, true)] [(0, false), (0, false), (0, false), (0, false), (0, false), (0, false), (0, false), (0, false), (0, false), (0, false), (0, false), (0, false), (0, false)] mixed (by kernel_rfl) (by kernel_rfl) ?_
    simp (maxSteps := 400000) (dsimp := false) only [axs, AThen, ABlock, dstsOk, AStep, callsF, AWant, aop, AS.ev, AS.put, upd, AS.bound, abin, aint, aload, astore, cellsAt, AV.cells, alen, elems, AV.int?, FPost, aresL, ares1, pack, afill, splice, Value.oneCell', Nat.reduceLT, Nat.reduceLeDiff, Nat.reduceEqDiff, Nat.reduceAdd, Nat.reduceMul, Nat.reduceSub, Nat.reduceBEq, Int.reduceLE, Int.reduceLT, Int.reduceToNat, Int.reduceNeg, Int.reduceEq, axt, ftK, ft3, pickP, AScope, AAll, pickQ, ftQ, inHeap, RT, Sl3.cells, tys]
    refine ACallK.strict rfl (hlast) (by simp only [SeesL, axs, axt, AS.ev, AS.put, upd, inHeap, Nat.reduceLT, Nat.reduceEqDiff, Nat.reduceAdd, Nat.reduceBEq, RT, Sl3.cells]; repeat' (first | exact True.intro | exact Sees.sc | exact Sees.none | ((with_reducible refine Sees.same ?_) <;> simp [noIds, noIdsL, noIdsE, noIdsE_U, noIdsE_UU, noIdsE_TL] <;> fail) | (refine Live.sees ?_ ?_ <;> first | assumption | (simp [noIdsE_U, noIdsE_UU, noIdsE_TL] <;> fail)) | (refine Sees.obj ?_ ?_ ?_ <;> first | exact ⟨_, _, by assumption, rfl⟩ | (simp [U_len, UU_len, TL_len] <;> fail) | (simp [noIdsE_U, noIdsE_UU, noIdsE_TL] <;> fail) | (simp [U, UU, upd] <;> fail) | (simp [U, UU, upd, neS, *] <;> fail)) | (refine Sees.of_seen 3 ?_ <;> simp [seen, upd, noIdsE, noIdsL, noIds, U, UU, Nat.add_assoc] <;> fail) | refine Sees.agg ?_ | refine And.intro ?_ ?_ | simp only [SeesL])) ?_; simp (maxSteps := 400000) (dsimp := false) only [axs, AThen, ABlock, dstsOk, AStep, callsF, AWant, aop, AS.ev, AS.put, upd, AS.bound, abin, aint, aload, astore, cellsAt, AV.cells, alen, elems, AV.int?, FPost, aresL, ares1, pack, afill, splice, Value.oneCell', Nat.reduceLT, Nat.reduceLeDiff, Nat.reduceEqDiff, Nat.reduceAdd, Nat.reduceMul, Nat.reduceSub, Nat.reduceBEq, Int.reduceLE, Int.reduceLT, Int.reduceToNat, Int.reduceNeg, Int.reduceEq, axt, ftK, ft3, pickP, AScope, AAll, pickQ, ftQ, inHeap, RT, Sl3.cells, tys]
    refine ⟨_, rfl, ?_⟩; simp (maxSteps := 400000) (dsimp := false) only [SeesL, axs, AThen, ABlock, dstsOk, AStep, callsF, AWant, aop, AS.ev, AS.put, upd, AS.bound, abin, aint, aload, astore, cellsAt, AV.cells, alen, elems, AV.int?, FPost, aresL, ares1, pack, afill, splice, Value.oneCell', Nat.reduceLT, Nat.reduceLeDiff, Nat.reduceEqDiff, Nat.reduceAdd, Nat.reduceMul, Nat.reduceSub, Nat.reduceBEq, Int.reduceLE, Int.reduceLT, Int.reduceToNat, Int.reduceNeg, Int.reduceEq, axt, ftK, ft3, pickP, AScope, AAll, pickQ, ftQ, inHeap, RT, Sl3.cells, tys] <;> repeat' (first | exact True.intro | exact Sees.sc | exact Sees.none | ((with_reducible refine Sees.same ?_) <;> simp [noIds, noIdsL, noIdsE, noIdsE_U, noIdsE_UU, noIdsE_TL] <;> fail) | (refine Live.sees ?_ ?_ <;> first | assumption | (simp [noIdsE_U, noIdsE_UU, noIdsE_TL] <;> fail)) | (refine Sees.obj ?_ ?_ ?_ <;> first | exact ⟨_, _, by assumption, rfl⟩ | (simp [U_len, UU_len, TL_len] <;> fail) | (simp [noIdsE_U, noIdsE_UU, noIdsE_TL] <;> fail) | (simp [U, UU, upd, neS] <;> fail) | (simp [U, UU, upd, neS, *] <;> fail)) | refine Sees.agg ?_ | refine Sees.tup ?_ | refine And.intro ?_ ?_ | simp only [SeesL])
  | false =>
    refine ADraw.planR [] [(0, true), (1, true), (2, true), (3, true), (4, true), (5, true), (6, true), (7, true), (8, true), (9, true), (10, true), (11, true), (12, true)] [(0, false), (0, false), (0, false), (0, false), (0, false), (0, false), (0, false), (0, false), (0, false), (0, false), (0, false), (0, false), (0, false)] mixed (by kernel_rfl) (by kernel_rfl) ?_
    simp (maxSteps := 400000) (dsimp := false) only [axs, AThen, ABlock, dstsOk, AStep, callsF, AWant, aop, AS.ev, AS.put, upd, AS.bound, abin, aint, aload, astore, cellsAt, AV.cells, alen, elems, AV.int?, FPost, aresL, ares1, pack, afill, splice, Value.oneCell', Nat.reduceLT, Nat.reduceLeDiff, Nat.reduceEqDiff, Nat.reduceAdd, Nat.reduceMul, Nat.reduceSub, Nat.reduceBEq, Int.reduceLE, Int.reduceLT, Int.reduceToNat, Int.reduceNeg, Int.reduceEq, axt, ftK, ft3, pickP, AScope, AAll, pickQ, ftQ, inHeap, RT, Sl3.cells, tys]
    refine ACallP.pure rfl (hlen) ?_; simp (maxSteps := 400000) (dsimp := false) only [w2, w3, w4, w2', w4', TL_len, axs, AThen, ABlock, dstsOk, AStep, callsF, AWant, aop, AS.ev, AS.put, upd, AS.bound, abin, aint, aload, astore, cellsAt, AV.cells, alen, elems, AV.int?, FPost, aresL, ares1, pack, afill, splice, Value.oneCell', Nat.reduceLT, Nat.reduceLeDiff, Nat.reduceEqDiff, Nat.reduceAdd, Nat.reduceMul, Nat.reduceSub, Nat.reduceBEq, Int.reduceLE, Int.reduceLT, Int.reduceToNat, Int.reduceNeg, Int.reduceEq, axt, ftK, ft3, pickP, AScope, AAll, pickQ, ftQ, inHeap, RT, Sl3.cells, tys]
    by_cases hb : 4 * cnt T + 4 > 3 * T.length
    · have hb' : 4 * (cnt T : Int) + 4 > 3 * (T.length : Int) := by omega
      have hT : putT T k = rehash T := by unfold putT big; rw [if_neg (by rw [hf]; simp), if_pos hb]
      rw [hT] at hlast
      simp (maxSteps := 400000) (dsimp := false) only [hb', w1, w1', b1, b2, b3, hrep, TL_len, axs, AThen, ABlock, dstsOk, AStep, callsF, AWant, aop, AS.ev, AS.put, upd, AS.bound, abin, aint, aload, astore, cellsAt, AV.cells, alen, elems, AV.int?, FPost, aresL, ares1, pack, afill, splice, Value.oneCell', Nat.reduceLT, Nat.reduceLeDiff, Nat.reduceEqDiff, Nat.reduceAdd, Nat.reduceMul, Nat.reduceSub, Nat.reduceBEq, Int.reduceLE, Int.reduceLT, Int.reduceToNat, Int.reduceNeg, Int.reduceEq, axt, ftK, ft3, pickP, AScope, AAll, pickQ, ftQ, inHeap, RT, Sl3.cells, tys]
      refine ALoop.shutO (n + 1 + 1) (t := 137) (z := 3) (es := TL (List.replicate (2 * T.length) z3)) (by simp [upd, neS]) ?_
      refine ALoop.upto T.length (fun p st => st.t 1 = .sc (.int .u64 k) ∧ st.t 2 = .sc (.int .i32 x) ∧ st.t 3 = .ptr n 1 0 0 ∧ st.t 6 = .ptr (n + 1) 1 0 0 ∧ st.t 9 = .ptr (n + 1 + 1 + 1) 1 0 0 ∧ st.t 10 = .sc (.int .i64 p) ∧ st.H n = some (.obj 29 1 [[.lst 3 (TL T)]] false) ∧ st.H (n + 1) = some (.obj 29 1 [[.sc (.slice none 0 0)]] false) ∧ (∃ v, st.H (n + 1 + 1 + 1) = some (.obj 29 1 [[v]] false) ∧ TabV 137 (n + 1 + 1) st.H (rehP T p) v)) ?_ ?_
      · refine ⟨rfl, rfl, rfl, rfl, rfl, rfl, by simp [upd, neS], by simp [upd, neS], _, by simp [upd, neS]; rfl, .inr ⟨?_, ?_⟩⟩
        · simp [rehP, relay]
        · simp [upd, neS, rehP, relay]
      rintro p st hpl hb2 ⟨t1, t2, t3, t6, t9, t10, hn0, hn1, v, hv, htv⟩
      obtain ⟨i1, i2, i3⟩ := rehP_part (T := T) (by omega) ok.inv p
      by_cases hx : p < T.length
      · have x1 : (p : Int) < T.length := by omega
        have x0 : (0 : Int) ≤ p := by omega
        have hg := TL_get hx
        have w5 : IntKind.i64.wrap ((p : Int) + 1) = ((p + 1 : Nat) : Int) := by rw [wrap_in (by omega) (by omega)]; omega
        have hsu := rehP_succ hx
        cases hfp : (sl T p).full with
        | false =>
          rw [hfp] at hsu hg
          simp (maxSteps := 400000) (dsimp := false) only [t3, t10, hn0, hg, x0, x1, w5, TL_len, axs, AThen, ABlock, dstsOk, AStep, callsF, AWant, aop, AS.ev, AS.put, upd, AS.bound, abin, aint, aload, astore, cellsAt, AV.cells, alen, elems, AV.int?, FPost, aresL, ares1, pack, afill, splice, Value.oneCell', Nat.reduceLT, Nat.reduceLeDiff, Nat.reduceEqDiff, Nat.reduceAdd, Nat.reduceMul, Nat.reduceSub, Nat.reduceBEq, Int.reduceLE, Int.reduceLT, Int.reduceToNat, Int.reduceNeg, Int.reduceEq, axt, ftK, ft3, pickP, AScope, AAll, pickQ, ftQ, inHeap, RT, Sl3.cells, tys]
          rw [hsu]
          exact ⟨hx, t1, t2, t6, t9, hn1, v, hv, htv⟩
        | true =>
          have hkk := ok.keys _ ⟨hfp, _, hx, rfl⟩
          have hlay := rHtLay (T := rehP T p) (by rw [i3]; exact pw_two hp hsm) (by rw [i3]; exact i2) (sl T p) hkk
          rw [i3] at hlay
          rw [hfp] at hsu
          have hsu : rehP T (p + 1) = lay1 (2 * T.length) (hm (2 * T.length)) (rehP T p) (sl T p) := hsu
          rw [← hsu] at hlay
          rw [hsu]
          rw [← hsu]
          generalize rehP T (p + 1) = V at *
          generalize rehP T p = W at *
          rcases htv with rfl | ⟨rfl, hid⟩
          · simp (maxSteps := 400000) (dsimp := false) only [t3, t10, hn0, hg, x0, x1, hfp, TL_len, axs, AThen, ABlock, dstsOk, AStep, callsF, AWant, aop, AS.ev, AS.put, upd, AS.bound, abin, aint, aload, astore, cellsAt, AV.cells, alen, elems, AV.int?, FPost, aresL, ares1, pack, afill, splice, Value.oneCell', Nat.reduceLT, Nat.reduceLeDiff, Nat.reduceEqDiff, Nat.reduceAdd, Nat.reduceMul, Nat.reduceSub, Nat.reduceBEq, Int.reduceLE, Int.reduceLT, Int.reduceToNat, Int.reduceNeg, Int.reduceEq, axt, ftK, ft3, pickP, AScope, AAll, pickQ, ftQ, inHeap, RT, Sl3.cells, tys]
            refine ADraw.planR [6] [(0, true), (1, true), (2, true), (3, true), (4, true), (5, true), (6, true), (7, true)] [(0, false), (0, false), (0, false), (0, false), (0, false), (0, false), (0, true), (0, false)] mixed (by kernel_rfl) (by kernel_rfl) ?_
            simp (maxSteps := 400000) (dsimp := false) only [t3, t9, t10, hn0, hv, hg, x0, x1, hfp, TL_len, axs, AThen, ABlock, dstsOk, AStep, callsF, AWant, aop, AS.ev, AS.put, upd, AS.bound, abin, aint, aload, astore, cellsAt, AV.cells, alen, elems, AV.int?, FPost, aresL, ares1, pack, afill, splice, Value.oneCell', Nat.reduceLT, Nat.reduceLeDiff, Nat.reduceEqDiff, Nat.reduceAdd, Nat.reduceMul, Nat.reduceSub, Nat.reduceBEq, Int.reduceLE, Int.reduceLT, Int.reduceToNat, Int.reduceNeg, Int.reduceEq, axt, ftK, ft3, pickP, AScope, AAll, pickQ, ftQ, inHeap, RT, Sl3.cells, tys]
            refine ASoloK.strict rfl rfl (hlay) (by simp only [SeesL, hfp, t9, hv, t10, w5, axs, axt, AS.ev, AS.put, upd, inHeap, Nat.reduceLT, Nat.reduceEqDiff, Nat.reduceAdd, Nat.reduceBEq, RT, Sl3.cells]; repeat' (first | exact True.intro | exact Sees.sc | exact Sees.none | ((with_reducible refine Sees.same ?_) <;> simp [noIds, noIdsL, noIdsE, noIdsE_U, noIdsE_UU, noIdsE_TL] <;> fail) | (refine Live.sees ?_ ?_ <;> first | assumption | (simp [noIdsE_U, noIdsE_UU, noIdsE_TL] <;> fail)) | (refine Sees.obj ?_ ?_ ?_ <;> first | exact ⟨_, _, by assumption, rfl⟩ | (simp [U_len, UU_len, TL_len] <;> fail) | (simp [noIdsE_U, noIdsE_UU, noIdsE_TL] <;> fail) | (simp [U, UU, upd] <;> fail) | (simp [U, UU, upd, neS, *] <;> fail)) | (refine Sees.of_seen 3 ?_ <;> simp [seen, upd, noIdsE, noIdsL, noIds, U, UU, Nat.add_assoc] <;> fail) | refine Sees.agg ?_ | refine And.intro ?_ ?_ | simp only [SeesL])) ?_; simp (maxSteps := 400000) (dsimp := false) only [hfp, t9, hv, t10, w5, axs, AThen, ABlock, dstsOk, AStep, callsF, AWant, aop, AS.ev, AS.put, upd, AS.bound, abin, aint, aload, astore, cellsAt, AV.cells, alen, elems, AV.int?, FPost, aresL, ares1, pack, afill, splice, Value.oneCell', Nat.reduceLT, Nat.reduceLeDiff, Nat.reduceEqDiff, Nat.reduceAdd, Nat.reduceMul, Nat.reduceSub, Nat.reduceBEq, Int.reduceLE, Int.reduceLT, Int.reduceToNat, Int.reduceNeg, Int.reduceEq, axt, ftK, ft3, pickP, AScope, AAll, pickQ, ftQ, inHeap, RT, Sl3.cells, tys]
            exact ⟨hx, t1, t2, t3, t6, hn0, hn1, _, rfl, .inl rfl⟩
          · simp (maxSteps := 400000) (dsimp := false) only [t3, t10, hn0, hg, x0, x1, hfp, TL_len, axs, AThen, ABlock, dstsOk, AStep, callsF, AWant, aop, AS.ev, AS.put, upd, AS.bound, abin, aint, aload, astore, cellsAt, AV.cells, alen, elems, AV.int?, FPost, aresL, ares1, pack, afill, splice, Value.oneCell', Nat.reduceLT, Nat.reduceLeDiff, Nat.reduceEqDiff, Nat.reduceAdd, Nat.reduceMul, Nat.reduceSub, Nat.reduceBEq, Int.reduceLE, Int.reduceLT, Int.reduceToNat, Int.reduceNeg, Int.reduceEq, axt, ftK, ft3, pickP, AScope, AAll, pickQ, ftQ, inHeap, RT, Sl3.cells, tys]
            refine ADraw.planR [6] [(0, true), (1, true), (2, true), (3, true), (4, true), (5, true), (6, true), (7, true)] [(0, false), (0, false), (0, false), (0, false), (0, false), (0, false), (0, true), (0, false)] mixed (by kernel_rfl) (by kernel_rfl) ?_
            simp (maxSteps := 400000) (dsimp := false) only [t3, t9, t10, hn0, hv, hg, x0, x1, hfp, TL_len, axs, AThen, ABlock, dstsOk, AStep, callsF, AWant, aop, AS.ev, AS.put, upd, AS.bound, abin, aint, aload, astore, cellsAt, AV.cells, alen, elems, AV.int?, FPost, aresL, ares1, pack, afill, splice, Value.oneCell', Nat.reduceLT, Nat.reduceLeDiff, Nat.reduceEqDiff, Nat.reduceAdd, Nat.reduceMul, Nat.reduceSub, Nat.reduceBEq, Int.reduceLE, Int.reduceLT, Int.reduceToNat, Int.reduceNeg, Int.reduceEq, axt, ftK, ft3, pickP, AScope, AAll, pickQ, ftQ, inHeap, RT, Sl3.cells, tys]
            refine ASoloK.strict rfl rfl (hlay) (by simp only [SeesL, hfp, t9, hv, t10, w5, axs, axt, AS.ev, AS.put, upd, inHeap, Nat.reduceLT, Nat.reduceEqDiff, Nat.reduceAdd, Nat.reduceBEq, RT, Sl3.cells]; repeat' (first | exact True.intro | exact Sees.sc | exact Sees.none | ((with_reducible refine Sees.same ?_) <;> simp [noIds, noIdsL, noIdsE, noIdsE_U, noIdsE_UU, noIdsE_TL] <;> fail) | (refine Live.sees ?_ ?_ <;> first | assumption | (simp [noIdsE_U, noIdsE_UU, noIdsE_TL] <;> fail)) | (refine Sees.obj ?_ ?_ ?_ <;> first | exact ⟨_, _, by assumption, rfl⟩ | (simp [U_len, UU_len, TL_len] <;> fail) | (simp [noIdsE_U, noIdsE_UU, noIdsE_TL] <;> fail) | (simp [U, UU, upd] <;> fail) | (simp [U, UU, upd, neS, *] <;> fail)) | (refine Sees.of_seen 3 ?_ <;> simp [seen, upd, noIdsE, noIdsL, noIds, U, UU, Nat.add_assoc] <;> fail) | refine Sees.agg ?_ | refine And.intro ?_ ?_ | simp only [SeesL])) ?_; simp (maxSteps := 400000) (dsimp := false) only [hfp, t9, hv, t10, w5, axs, AThen, ABlock, dstsOk, AStep, callsF, AWant, aop, AS.ev, AS.put, upd, AS.bound, abin, aint, aload, astore, cellsAt, AV.cells, alen, elems, AV.int?, FPost, aresL, ares1, pack, afill, splice, Value.oneCell', Nat.reduceLT, Nat.reduceLeDiff, Nat.reduceEqDiff, Nat.reduceAdd, Nat.reduceMul, Nat.reduceSub, Nat.reduceBEq, Int.reduceLE, Int.reduceLT, Int.reduceToNat, Int.reduceNeg, Int.reduceEq, axt, ftK, ft3, pickP, AScope, AAll, pickQ, ftQ, inHeap, RT, Sl3.cells, tys]
            exact ⟨hx, t1, t2, t3, t6, hn0, hn1, _, rfl, .inl rfl⟩
      · have x1 : ¬ (p : Int) < T.length := by omega
        have hpe : p = T.length := by omega
        subst hpe
        rw [rehP_all] at htv i3
        simp (maxSteps := 400000) (dsimp := false) only [t3, t10, hn0, x1, TL_len, axs, AThen, ABlock, dstsOk, AStep, callsF, AWant, aop, AS.ev, AS.put, upd, AS.bound, abin, aint, aload, astore, cellsAt, AV.cells, alen, elems, AV.int?, FPost, aresL, ares1, pack, afill, splice, Value.oneCell', Nat.reduceLT, Nat.reduceLeDiff, Nat.reduceEqDiff, Nat.reduceAdd, Nat.reduceMul, Nat.reduceSub, Nat.reduceBEq, Int.reduceLE, Int.reduceLT, Int.reduceToNat, Int.reduceNeg, Int.reduceEq, axt, ftK, ft3, pickP, AScope, AAll, pickQ, ftQ, inHeap, RT, Sl3.cells, tys]
        rcases htv with rfl | ⟨rfl, hid⟩
        · simp (maxSteps := 400000) (dsimp := false) only [t1, t2, t3, t6, t9, hv, hn0, hn1, axs, AThen, ABlock, dstsOk, AStep, callsF, AWant, aop, AS.ev, AS.put, upd, AS.bound, abin, aint, aload, astore, cellsAt, AV.cells, alen, elems, AV.int?, FPost, aresL, ares1, pack, afill, splice, Value.oneCell', Nat.reduceLT, Nat.reduceLeDiff, Nat.reduceEqDiff, Nat.reduceAdd, Nat.reduceMul, Nat.reduceSub, Nat.reduceBEq, Int.reduceLE, Int.reduceLT, Int.reduceToNat, Int.reduceNeg, Int.reduceEq, axt, ftK, ft3, pickP, AScope, AAll, pickQ, ftQ, inHeap, RT, Sl3.cells, tys]
          refine ACallK.strict rfl (hlast) (by simp only [SeesL, t6, hn1, axs, axt, AS.ev, AS.put, upd, inHeap, Nat.reduceLT, Nat.reduceEqDiff, Nat.reduceAdd, Nat.reduceBEq, RT, Sl3.cells]; repeat' (first | exact True.intro | exact Sees.sc | exact Sees.none | ((with_reducible refine Sees.same ?_) <;> simp [noIds, noIdsL, noIdsE, noIdsE_U, noIdsE_UU, noIdsE_TL] <;> fail) | (refine Live.sees ?_ ?_ <;> first | assumption | (simp [noIdsE_U, noIdsE_UU, noIdsE_TL] <;> fail)) | (refine Sees.obj ?_ ?_ ?_ <;> first | exact ⟨_, _, by assumption, rfl⟩ | (simp [U_len, UU_len, TL_len] <;> fail) | (simp [noIdsE_U, noIdsE_UU, noIdsE_TL] <;> fail) | (simp [U, UU, upd] <;> fail) | (simp [U, UU, upd, neS, *] <;> fail)) | (refine Sees.of_seen 3 ?_ <;> simp [seen, upd, noIdsE, noIdsL, noIds, U, UU, Nat.add_assoc] <;> fail) | refine Sees.agg ?_ | refine And.intro ?_ ?_ | simp only [SeesL])) ?_; simp (maxSteps := 400000) (dsimp := false) only [t6, hn1, axs, AThen, ABlock, dstsOk, AStep, callsF, AWant, aop, AS.ev, AS.put, upd, AS.bound, abin, aint, aload, astore, cellsAt, AV.cells, alen, elems, AV.int?, FPost, aresL, ares1, pack, afill, splice, Value.oneCell', Nat.reduceLT, Nat.reduceLeDiff, Nat.reduceEqDiff, Nat.reduceAdd, Nat.reduceMul, Nat.reduceSub, Nat.reduceBEq, Int.reduceLE, Int.reduceLT, Int.reduceToNat, Int.reduceNeg, Int.reduceEq, axt, ftK, ft3, pickP, AScope, AAll, pickQ, ftQ, inHeap, RT, Sl3.cells, tys]
          refine ⟨_, rfl, ?_⟩; simp (maxSteps := 400000) (dsimp := false) only [SeesL, axs, AThen, ABlock, dstsOk, AStep, callsF, AWant, aop, AS.ev, AS.put, upd, AS.bound, abin, aint, aload, astore, cellsAt, AV.cells, alen, elems, AV.int?, FPost, aresL, ares1, pack, afill, splice, Value.oneCell', Nat.reduceLT, Nat.reduceLeDiff, Nat.reduceEqDiff, Nat.reduceAdd, Nat.reduceMul, Nat.reduceSub, Nat.reduceBEq, Int.reduceLE, Int.reduceLT, Int.reduceToNat, Int.reduceNeg, Int.reduceEq, axt, ftK, ft3, pickP, AScope, AAll, pickQ, ftQ, inHeap, RT, Sl3.cells, tys] <;> repeat' (first | exact True.intro | exact Sees.sc | exact Sees.none | ((with_reducible refine Sees.same ?_) <;> simp [noIds, noIdsL, noIdsE, noIdsE_U, noIdsE_UU, noIdsE_TL] <;> fail) | (refine Live.sees ?_ ?_ <;> first | assumption | (simp [noIdsE_U, noIdsE_UU, noIdsE_TL] <;> fail)) | (refine Sees.obj ?_ ?_ ?_ <;> first | exact ⟨_, _, by assumption, rfl⟩ | (simp [U_len, UU_len, TL_len] <;> fail) | (simp [noIdsE_U, noIdsE_UU, noIdsE_TL] <;> fail) | (simp [U, UU, upd, neS] <;> fail) | (simp [U, UU, upd, neS, *] <;> fail)) | refine Sees.agg ?_ | refine Sees.tup ?_ | refine And.intro ?_ ?_ | simp only [SeesL])
        · simp (maxSteps := 400000) (dsimp := false) only [t1, t2, t3, t6, t9, hv, hn0, hn1, axs, AThen, ABlock, dstsOk, AStep, callsF, AWant, aop, AS.ev, AS.put, upd, AS.bound, abin, aint, aload, astore, cellsAt, AV.cells, alen, elems, AV.int?, FPost, aresL, ares1, pack, afill, splice, Value.oneCell', Nat.reduceLT, Nat.reduceLeDiff, Nat.reduceEqDiff, Nat.reduceAdd, Nat.reduceMul, Nat.reduceSub, Nat.reduceBEq, Int.reduceLE, Int.reduceLT, Int.reduceToNat, Int.reduceNeg, Int.reduceEq, axt, ftK, ft3, pickP, AScope, AAll, pickQ, ftQ, inHeap, RT, Sl3.cells, tys]
          refine ACallK.strict rfl (hlast) (by simp only [SeesL, t6, hn1, axs, axt, AS.ev, AS.put, upd, inHeap, Nat.reduceLT, Nat.reduceEqDiff, Nat.reduceAdd, Nat.reduceBEq, RT, Sl3.cells]; repeat' (first | exact True.intro | exact Sees.sc | exact Sees.none | ((with_reducible refine Sees.same ?_) <;> simp [noIds, noIdsL, noIdsE, noIdsE_U, noIdsE_UU, noIdsE_TL] <;> fail) | (refine Live.sees ?_ ?_ <;> first | assumption | (simp [noIdsE_U, noIdsE_UU, noIdsE_TL] <;> fail)) | (refine Sees.obj ?_ ?_ ?_ <;> first | exact ⟨_, _, by assumption, rfl⟩ | (simp [U_len, UU_len, TL_len] <;> fail) | (simp [noIdsE_U, noIdsE_UU, noIdsE_TL] <;> fail) | (simp [U, UU, upd] <;> fail) | (simp [U, UU, upd, neS, *] <;> fail)) | (refine Sees.of_seen 3 ?_ <;> simp [seen, upd, noIdsE, noIdsL, noIds, U, UU, Nat.add_assoc] <;> fail) | refine Sees.agg ?_ | refine And.intro ?_ ?_ | simp only [SeesL])) ?_; simp (maxSteps := 400000) (dsimp := false) only [t6, hn1, axs, AThen, ABlock, dstsOk, AStep, callsF, AWant, aop, AS.ev, AS.put, upd, AS.bound, abin, aint, aload, astore, cellsAt, AV.cells, alen, elems, AV.int?, FPost, aresL, ares1, pack, afill, splice, Value.oneCell', Nat.reduceLT, Nat.reduceLeDiff, Nat.reduceEqDiff, Nat.reduceAdd, Nat.reduceMul, Nat.reduceSub, Nat.reduceBEq, Int.reduceLE, Int.reduceLT, Int.reduceToNat, Int.reduceNeg, Int.reduceEq, axt, ftK, ft3, pickP, AScope, AAll, pickQ, ftQ, inHeap, RT, Sl3.cells, tys]
          refine ⟨_, rfl, ?_⟩; simp (maxSteps := 400000) (dsimp := false) only [SeesL, axs, AThen, ABlock, dstsOk, AStep, callsF, AWant, aop, AS.ev, AS.put, upd, AS.bound, abin, aint, aload, astore, cellsAt, AV.cells, alen, elems, AV.int?, FPost, aresL, ares1, pack, afill, splice, Value.oneCell', Nat.reduceLT, Nat.reduceLeDiff, Nat.reduceEqDiff, Nat.reduceAdd, Nat.reduceMul, Nat.reduceSub, Nat.reduceBEq, Int.reduceLE, Int.reduceLT, Int.reduceToNat, Int.reduceNeg, Int.reduceEq, axt, ftK, ft3, pickP, AScope, AAll, pickQ, ftQ, inHeap, RT, Sl3.cells, tys] <;> repeat' (first | exact True.intro | exact Sees.sc | exact Sees.none | ((with_reducible refine Sees.same ?_) <;> simp [noIds, noIdsL, noIdsE, noIdsE_U, noIdsE_UU, noIdsE_TL] <;> fail) | (refine Live.sees ?_ ?_ <;> first | assumption | (simp [noIdsE_U, noIdsE_UU, noIdsE_TL] <;> fail)) | (refine Sees.obj ?_ ?_ ?_ <;> first | exact ⟨_, _, by assumption, rfl⟩ | (simp [U_len, UU_len, TL_len] <;> fail) | (simp [noIdsE_U, noIdsE_UU, noIdsE_TL] <;> fail) | (simp [U, UU, upd, neS] <;> fail) | (simp [U, UU, upd, neS, *] <;> fail)) | refine Sees.agg ?_ | refine Sees.tup ?_ | refine And.intro ?_ ?_ | simp only [SeesL])
    · have hb' : ¬ 4 * (cnt T : Int) + 4 > 3 * (T.length : Int) := by omega
      have hT : putT T k = T := by unfold putT big; rw [if_neg (by rw [hf]; simp), if_neg hb]
      rw [hT] at hlast
      simp (maxSteps := 400000) (dsimp := false) only [hb', axs, AThen, ABlock, dstsOk, AStep, callsF, AWant, aop, AS.ev, AS.put, upd, AS.bound, abin, aint, aload, astore, cellsAt, AV.cells, alen, elems, AV.int?, FPost, aresL, ares1, pack, afill, splice, Value.oneCell', Nat.reduceLT, Nat.reduceLeDiff, Nat.reduceEqDiff, Nat.reduceAdd, Nat.reduceMul, Nat.reduceSub, Nat.reduceBEq, Int.reduceLE, Int.reduceLT, Int.reduceToNat, Int.reduceNeg, Int.reduceEq, axt, ftK, ft3, pickP, AScope, AAll, pickQ, ftQ, inHeap, RT, Sl3.cells, tys]
      refine ACallK.strict rfl (hlast) (by simp only [SeesL, axs, axt, AS.ev, AS.put, upd, inHeap, Nat.reduceLT, Nat.reduceEqDiff, Nat.reduceAdd, Nat.reduceBEq, RT, Sl3.cells]; repeat' (first | exact True.intro | exact Sees.sc | exact Sees.none | ((with_reducible refine Sees.same ?_) <;> simp [noIds, noIdsL, noIdsE, noIdsE_U, noIdsE_UU, noIdsE_TL] <;> fail) | (refine Live.sees ?_ ?_ <;> first | assumption | (simp [noIdsE_U, noIdsE_UU, noIdsE_TL] <;> fail)) | (refine Sees.obj ?_ ?_ ?_ <;> first | exact ⟨_, _, by assumption, rfl⟩ | (simp [U_len, UU_len, TL_len] <;> fail) | (simp [noIdsE_U, noIdsE_UU, noIdsE_TL] <;> fail) | (simp [U, UU, upd] <;> fail) | (simp [U, UU, upd, neS, *] <;> fail)) | (refine Sees.of_seen 3 ?_ <;> simp [seen, upd, noIdsE, noIdsL, noIds, U, UU, Nat.add_assoc] <;> fail) | refine Sees.agg ?_ | refine And.intro ?_ ?_ | simp only [SeesL])) ?_; simp (maxSteps := 400000) (dsimp := false) only [axs, AThen, ABlock, dstsOk, AStep, callsF, AWant, aop, AS.ev, AS.put, upd, AS.bound, abin, aint, aload, astore, cellsAt, AV.cells, alen, elems, AV.int?, FPost, aresL, ares1, pack, afill, splice, Value.oneCell', Nat.reduceLT, Nat.reduceLeDiff, Nat.reduceEqDiff, Nat.reduceAdd, Nat.reduceMul, Nat.reduceSub, Nat.reduceBEq, Int.reduceLE, Int.reduceLT, Int.reduceToNat, Int.reduceNeg, Int.reduceEq, axt, ftK, ft3, pickP, AScope, AAll, pickQ, ftQ, inHeap, RT, Sl3.cells, tys]
      refine ⟨_, rfl, ?_⟩; simp (maxSteps := 400000) (dsimp := false) only [SeesL, axs, AThen, ABlock, dstsOk, AStep, callsF, AWant, aop, AS.ev, AS.put, upd, AS.bound, abin, aint, aload, astore, cellsAt, AV.cells, alen, elems, AV.int?, FPost, aresL, ares1, pack, afill, splice, Value.oneCell', Nat.reduceLT, Nat.reduceLeDiff, Nat.reduceEqDiff, Nat.reduceAdd, Nat.reduceMul, Nat.reduceSub, Nat.reduceBEq, Int.reduceLE, Int.reduceLT, Int.reduceToNat, Int.reduceNeg, Int.reduceEq, axt, ftK, ft3, pickP, AScope, AAll, pickQ, ftQ, inHeap, RT, Sl3.cells, tys] <;> repeat' (first | exact True.intro | exact Sees.sc | exact Sees.none | ((with_reducible refine Sees.same ?_) <;> simp [noIds, noIdsL, noIdsE, noIdsE_U, noIdsE_UU, noIdsE_TL] <;> fail) | (refine Live.sees ?_ ?_ <;> first | assumption | (simp [noIdsE_U, noIdsE_UU, noIdsE_TL] <;> fail)) | (refine Sees.obj ?_ ?_ ?_ <;> first | exact ⟨_, _, by assumption, rfl⟩ | (simp [U_len, UU_len, TL_len] <;> fail) | (simp [noIdsE_U, noIdsE_UU, noIdsE_TL] <;> fail) | (simp [U, UU, upd, neS] <;> fail) | (simp [U, UU, upd, neS, *] <;> fail)) | refine Sees.agg ?_ | refine Sees.tup ?_ | refine And.intro ?_ ?_ | simp only [SeesL])
end Go.Al
end
section
set_option linter.unusedVariables false
set_option linter.unusedSimpArgs false
set_option maxRecDepth 20000
set_option maxHeartbeats 1600000
-- axs, AThen, ABlock, dstsOk, AStep, callsF, AWant, aop, AS.ev, AS.put, upd, AS.bound, abin, aint, aload, astore, cellsAt, AV.cells, alen, elems, AV.int?, FPost, aresL, ares1, pack, afill, splice, Value.oneCell', Nat.reduceLT, Nat.reduceLeDiff, Nat.reduceEqDiff, Nat.reduceAdd, Nat.reduceMul, Nat.reduceSub, Nat.reduceBEq, Int.reduceLE, Int.reduceLT, Int.reduceToNat, Int.reduceNeg, Int.reduceEq, axt, ftK, ft3, pickP, AScope, AAll, pickQ, ftQ, inHeap, RT, Sl3.cells, tys: RT, Sl3.cells
-- NOIDS: noIdsE_TL
-- LENS: TL_len
namespace Go.Al
open Go.Proofs
/-- Those that stand behind a place. -/
def rsT (T : Tb) (q m : Nat) : List Sl3 := (List.range m).map fun j => sl T (adv T.length q (j + 1))
theorem rsT_len (T : Tb) (q m : Nat) : (rsT T q m).length = m := by simp [rsT]
theorem rsT_succ (T : Tb) (q m : Nat) : rsT T q (m + 1) = rsT T q m ++ [sl T (adv T.length q (m + 1))] := by simp [rsT, List.range_succ]
theorem rsT_get {T : Tb} {q m j : Nat} (h : j < m) : (rsT T q m)[j]? = some (sl T (adv T.length q (j + 1))) := by simp [rsT, h]
theorem TL_snoc (T : Tb) (x : Sl3) : TL T ++ [[.sc (.int .u64 x.key), .sc (.int .i32 x.n), .sc (.bool x.full)]] = TL (T ++ [x]) := by simp [TL, Sl3.cells]
theorem TL_geti {l : List Sl3} {j : Nat} {x : Sl3} (h : l[j]? = some x) : (TL l)[j]? = some [.sc (.int .u64 x.key), .sc (.int .i32 x.n), .sc (.bool x.full)] := by simp [TL, h, Sl3.cells]
theorem rHtDelete {T : Tb} (ok : HOk T) {k : Int} (hk : Key k) :
    PCalls Try.prog 68 [RT T, .sc (.int .u64 k)] (.tup [RT (hDel T k).1, .sc (.bool (hDel T k).2)]) := by
  have hp := ok.pw
  have hl := hp.le
  have hq := ok.find k
  have hlk := rHtLook hp hk hq
  have hg := TL_get hq.lt
  have r0 : (0 : Int) ≤ (hF T k : Int) := by omega
  have r1 : (hF T k : Int) < T.length := by have := hq.lt; omega
  have b1 : T.length * 16 ≤ 140737488355328 := by omega
  have b2 : T.length ≤ 1099511627776 := by omega
  have c2 : ¬ ((T.length : Int) = 0) := by omega
  refine PCalls.intro2 Try.func68 rfl rfl Try.ntmps68 Try.results68 (by simp) fun n => ?_; simp (maxSteps := 400000) (dsimp := false) only [axs, AThen, ABlock, dstsOk, AStep, callsF, AWant, aop, AS.ev, AS.put, upd, AS.bound, abin, aint, aload, astore, cellsAt, AV.cells, alen, elems, AV.int?, FPost, aresL, ares1, pack, afill, splice, Value.oneCell', Nat.reduceLT, Nat.reduceLeDiff, Nat.reduceEqDiff, Nat.reduceAdd, Nat.reduceMul, Nat.reduceSub, Nat.reduceBEq, Int.reduceLE, Int.reduceLT, Int.reduceToNat, Int.reduceNeg, Int.reduceEq, axt, ftK, ft3, pickP, AScope, AAll, pickQ, ftQ, inHeap, RT, Sl3.cells, tys]
  refine ACallK.strict rfl (hlk) (by simp only [SeesL, axs, axt, AS.ev, AS.put, upd, inHeap, Nat.reduceLT, Nat.reduceEqDiff, Nat.reduceAdd, Nat.reduceBEq, RT, Sl3.cells]; repeat' (first | exact True.intro | exact Sees.sc | exact Sees.none | ((with_reducible refine Sees.same ?_) <;> simp [noIds, noIdsL, noIdsE, noIdsE_U, noIdsE_UU, noIdsE_TL] <;> fail) | (refine Live.sees ?_ ?_ <;> first | assumption | (simp [noIdsE_U, noIdsE_UU, noIdsE_TL] <;> fail)) | (refine Sees.obj ?_ ?_ ?_ <;> first | exact ⟨_, _, by assumption, rfl⟩ | (simp [U_len, UU_len, TL_len] <;> fail) | (simp [noIdsE_U, noIdsE_UU, noIdsE_TL] <;> fail) | (simp [U, UU, upd] <;> fail) | (simp [U, UU, upd, neS, *] <;> fail)) | (refine Sees.of_seen 3 ?_ <;> simp [seen, upd, noIdsE, noIdsL, noIds, U, UU, Nat.add_assoc] <;> fail) | refine Sees.agg ?_ | refine And.intro ?_ ?_ | simp only [SeesL])) ?_; simp (maxSteps := 400000) (dsimp := false) only [axs, AThen, ABlock, dstsOk, AStep, callsF, AWant, aop, AS.ev, AS.put, upd, AS.bound, abin, aint, aload, astore, cellsAt, AV.cells, alen, elems, AV.int?, FPost, aresL, ares1, pack, afill, splice, Value.oneCell', Nat.reduceLT, Nat.reduceLeDiff, Nat.reduceEqDiff, Nat.reduceAdd, Nat.reduceMul, Nat.reduceSub, Nat.reduceBEq, Int.reduceLE, Int.reduceLT, Int.reduceToNat, Int.reduceNeg, Int.reduceEq, axt, ftK, ft3, pickP, AScope, AAll, pickQ, ftQ, inHeap, RT, Sl3.cells, tys]
  cases hf : (sl T (hF T k)).full with
  | false =>
    rw [hf] at hg
    have hd : hDel T k = (T, false) := by unfold hDel; rw [if_neg (by rw [hf]; simp)]
    rw [hd]
    simp (maxSteps := 400000) (dsimp := false) only [hg, r0, r1, TL_len, axs, AThen, ABlock, dstsOk, AStep, callsF, AWant, aop, AS.ev, AS.put, upd, AS.bound, abin, aint, aload, astore, cellsAt, AV.cells, alen, elems, AV.int?, FPost, aresL, ares1, pack, afill, splice, Value.oneCell', Nat.reduceLT, Nat.reduceLeDiff, Nat.reduceEqDiff, Nat.reduceAdd, Nat.reduceMul, Nat.reduceSub, Nat.reduceBEq, Int.reduceLE, Int.reduceLT, Int.reduceToNat, Int.reduceNeg, Int.reduceEq, axt, ftK, ft3, pickP, AScope, AAll, pickQ, ftQ, inHeap, RT, Sl3.cells, tys]
    refine ⟨_, rfl, ?_⟩; simp (maxSteps := 400000) (dsimp := false) only [SeesL, axs, AThen, ABlock, dstsOk, AStep, callsF, AWant, aop, AS.ev, AS.put, upd, AS.bound, abin, aint, aload, astore, cellsAt, AV.cells, alen, elems, AV.int?, FPost, aresL, ares1, pack, afill, splice, Value.oneCell', Nat.reduceLT, Nat.reduceLeDiff, Nat.reduceEqDiff, Nat.reduceAdd, Nat.reduceMul, Nat.reduceSub, Nat.reduceBEq, Int.reduceLE, Int.reduceLT, Int.reduceToNat, Int.reduceNeg, Int.reduceEq, axt, ftK, ft3, pickP, AScope, AAll, pickQ, ftQ, inHeap, RT, Sl3.cells, tys] <;> repeat' (first | exact True.intro | exact Sees.sc | exact Sees.none | ((with_reducible refine Sees.same ?_) <;> simp [noIds, noIdsL, noIdsE, noIdsE_U, noIdsE_UU, noIdsE_TL] <;> fail) | (refine Live.sees ?_ ?_ <;> first | assumption | (simp [noIdsE_U, noIdsE_UU, noIdsE_TL] <;> fail)) | (refine Sees.obj ?_ ?_ ?_ <;> first | exact ⟨_, _, by assumption, rfl⟩ | (simp [U_len, UU_len, TL_len] <;> fail) | (simp [noIdsE_U, noIdsE_UU, noIdsE_TL] <;> fail) | (simp [U, UU, upd, neS] <;> fail) | (simp [U, UU, upd, neS, *] <;> fail)) | refine Sees.agg ?_ | refine Sees.tup ?_ | refine And.intro ?_ ?_ | simp only [SeesL])
  | true =>
    have hh : ∀ k, hm T.length k < T.length := fun k => hm_lt (by omega) k
    have hc := clen_is hq.lt hf ok.room
    have hhf := half_all hh ok.inv hq.lt hc
    have hd : hDel T k = (rel T.length (hm T.length) T (hF T k) (clen T (hF T k)) (clen T (hF T k)), true) := by unfold hDel; rw [if_pos hf]
    rw [hd]
    rw [hf] at hg
    have hql := hq.lt
    generalize hF T k = q at *
    generalize clen T q = c at *
    have hclt := hc.lt
    have w2 : IntKind.i64.wrap ((q : Int) + 1) = (q : Int) + 1 := wrap_in (by omega) (by omega)
    have w3 := rem_next hql
    have hset : (TL T).set q [.sc (.int .u64 0), .sc (.int .i32 0), .sc (.bool false)] = TL (T.set q z3) := TL_set T q z3
    simp (maxSteps := 400000) (dsimp := false) only [hg, r0, r1, b1, b2, c2, w2, w3, hset, TL_len, axs, AThen, ABlock, dstsOk, AStep, callsF, AWant, aop, AS.ev, AS.put, upd, AS.bound, abin, aint, aload, astore, cellsAt, AV.cells, alen, elems, AV.int?, FPost, aresL, ares1, pack, afill, splice, Value.oneCell', Nat.reduceLT, Nat.reduceLeDiff, Nat.reduceEqDiff, Nat.reduceAdd, Nat.reduceMul, Nat.reduceSub, Nat.reduceBEq, Int.reduceLE, Int.reduceLT, Int.reduceToNat, Int.reduceNeg, Int.reduceEq, axt, ftK, ft3, pickP, AScope, AAll, pickQ, ftQ, inHeap, RT, Sl3.cells, tys]
    refine ALoop.upto c (fun m st => st.t 4 = .ptr (n + 1) 1 0 0 ∧ st.t 6 = .sc (.int .i64 (adv T.length q (m + 1))) ∧ st.t 8 = .sl (n + 1 + 1 + 1) 3 0 T.length ∧ st.H (n + 1) = some (.obj 29 1 [[.sc (.slice none 0 0)]] false) ∧ st.H (n + 1 + 1 + 1) = some (.obj 137 3 (TL (clr T.length q T m)) false) ∧ n + 1 + 1 + 1 + 1 ≤ st.n ∧ ∃ v, st.t 9 = v ∧ Live 137 3 st.H (TL (rsT T q m)) v ∧ ∀ id len, v = .sl id 3 0 len → n + 1 + 1 + 1 < id ∧ id < st.n) ?_ ?_
    · refine ⟨rfl, rfl, rfl, by simp [upd, neS], by simp [upd, neS, clr], by simp, _, rfl, .inl ⟨rfl, rfl⟩, fun id len e => by cases e⟩
    rintro m st hmj hb ⟨t4, t6, t8, h1, h3, hn, v, t9, hv, hid⟩
    have hat : adv T.length q (m + 1) < T.length := adv_lt hql (by omega)
    have hcl := clr_len T.length q T m
    have hgs := clr_sl (q := q) (T := T) rfl hql m (adv T.length q (m + 1)) (by omega) hat
    rw [D_adv hql (by omega), if_neg (by omega)] at hgs
    have hg2 := TL_get (T := clr T.length q T m) (q := adv T.length q (m + 1)) (by omega)
    rw [hgs] at hg2
    have hset2 : (TL (clr T.length q T m)).set (adv T.length q (m + 1)) [.sc (.int .u64 0), .sc (.int .i32 0), .sc (.bool false)] = TL (clr T.length q T (m + 1)) := TL_set _ _ z3
    have hrs := rsT_succ T q m
    have hrl := rsT_len T q m
    have hsn := TL_snoc (rsT T q m) (sl T (adv T.length q (m + 1)))
    rw [← hrs] at hsn
    have x0 : (0 : Int) ≤ (adv T.length q (m + 1) : Int) := by omega
    have x1 : (adv T.length q (m + 1) : Int) < T.length := by omega
    have w4 : IntKind.i64.wrap ((adv T.length q (m + 1) : Int) + 1) = (adv T.length q (m + 1) : Int) + 1 := wrap_in (by omega) (by omega)
    have w5 := rem_next hat
    by_cases hx : m < c
    · have hon := hc.on (m + 1) (by omega) (by omega)
      rw [hon] at hg2 hsn
      have hnx : adv T.length q (m + 1 + 1) = adv T.length (adv T.length q (m + 1)) 1 := adv_succ hql (by omega)
      have ne1 : ¬ n + 1 = st.n ∧ ¬ n + 1 + 1 + 1 = st.n ∧ ¬ n + 1 = st.n + 1 ∧ ¬ n + 1 + 1 + 1 = st.n + 1 := by and_intros <;> omega
      rcases hv with ⟨e1, e2⟩ | ⟨id, e1, e2⟩
      · rw [e2] at t9
        have hm0 : m = 0 := by have := congrArg List.length e1; rw [TL_len, hrl] at this; simpa using this
        simp (maxSteps := 400000) (dsimp := false) only [t6, t8, t9, h1, h3, hg2, x0, x1, w4, w5, c2, hset2, ne1, TL_len, axs, AThen, ABlock, dstsOk, AStep, callsF, AWant, aop, AS.ev, AS.put, upd, AS.bound, abin, aint, aload, astore, cellsAt, AV.cells, alen, elems, AV.int?, FPost, aresL, ares1, pack, afill, splice, Value.oneCell', Nat.reduceLT, Nat.reduceLeDiff, Nat.reduceEqDiff, Nat.reduceAdd, Nat.reduceMul, Nat.reduceSub, Nat.reduceBEq, Int.reduceLE, Int.reduceLT, Int.reduceToNat, Int.reduceNeg, Int.reduceEq, axt, ftK, ft3, pickP, AScope, AAll, pickQ, ftQ, inHeap, RT, Sl3.cells, tys]
        subst hm0
        refine ⟨hx, t4, by rw [hnx], by omega, _, rfl, Live.mk ?_ (by rw [TL_len, rsT_len]), fun id len e => ?_⟩
        · rw [upd_ne _ _ (by omega), upd_same, ← hsn]; rfl
        · simp only [AV.sl.injEq] at e; omega
      · rw [e1] at t9
        obtain ⟨q1, q2⟩ := hid _ _ e1
        rw [TL_len, hrl] at t9
        have ne2 : ¬ n + 1 = id ∧ ¬ n + 1 + 1 + 1 = id ∧ ¬ id = n + 1 + 1 + 1 ∧ ¬ id = st.n ∧ ¬ st.n = id := by and_intros <;> omega
        have g1 : m ≤ 1099511627775 := by omega
        have g2 : (m + 1) * 16 ≤ 140737488355328 ↔ True := by simp; omega
        simp (maxSteps := 400000) (dsimp := false) only [t6, t8, t9, h1, h3, e2, hg2, x0, x1, w4, w5, c2, hset2, ne1, ne2, TL_len, hrl, g1, g2, axs, AThen, ABlock, dstsOk, AStep, callsF, AWant, aop, AS.ev, AS.put, upd, AS.bound, abin, aint, aload, astore, cellsAt, AV.cells, alen, elems, AV.int?, FPost, aresL, ares1, pack, afill, splice, Value.oneCell', Nat.reduceLT, Nat.reduceLeDiff, Nat.reduceEqDiff, Nat.reduceAdd, Nat.reduceMul, Nat.reduceSub, Nat.reduceBEq, Int.reduceLE, Int.reduceLT, Int.reduceToNat, Int.reduceNeg, Int.reduceEq, axt, ftK, ft3, pickP, AScope, AAll, pickQ, ftQ, inHeap, RT, Sl3.cells, tys]
        refine ⟨hx, t4, by rw [hnx], by omega, _, rfl, Live.mk ?_ (by rw [TL_len, rsT_len]), fun id len e => ?_⟩
        · rw [upd_ne _ _ (by omega), upd_same, ← hsn]
        · simp only [AV.sl.injEq] at e; omega
    · have hmc : m = c := by omega
      subst hmc
      have hoff := hc.off
      rw [hoff] at hg2
      simp (maxSteps := 400000) (dsimp := false) only [t6, t8, h3, hg2, x0, x1, TL_len, hcl, axs, AThen, ABlock, dstsOk, AStep, callsF, AWant, aop, AS.ev, AS.put, upd, AS.bound, abin, aint, aload, astore, cellsAt, AV.cells, alen, elems, AV.int?, FPost, aresL, ares1, pack, afill, splice, Value.oneCell', Nat.reduceLT, Nat.reduceLeDiff, Nat.reduceEqDiff, Nat.reduceAdd, Nat.reduceMul, Nat.reduceSub, Nat.reduceBEq, Int.reduceLE, Int.reduceLT, Int.reduceToNat, Int.reduceNeg, Int.reduceEq, axt, ftK, ft3, pickP, AScope, AAll, pickQ, ftQ, inHeap, RT, Sl3.cells, tys]
      have ne5 : ¬ n + 1 = st.n ∧ ¬ n + 1 + 1 + 1 = st.n ∧ ¬ st.n = n + 1 ∧ ¬ st.n = n + 1 + 1 + 1 ∧ ¬ n + 1 = n + 1 + 1 + 1 := by and_intros <;> omega
      refine ALoop.shutO (n + 1 + 1 + 1) (t := 137) (z := 3) (es := TL (clr T.length q T m)) (by simp [upd, ne5, h3]) ?_
      rcases hv with ⟨e1, e2⟩ | ⟨id, e1, e2⟩
      · have hm0 : m = 0 := by have := congrArg List.length e1; rw [TL_len, hrl] at this; simpa using this
        subst hm0
        rw [e2] at t9
        refine ALoop.upto 0 (fun j s => s.t 4 = .ptr (n + 1) 1 0 0 ∧ s.t 9 = .sc (.slice none 0 0) ∧ s.t 10 = .ptr st.n 1 0 0 ∧ s.t 11 = .sc (.int .i64 0) ∧ s.H (n + 1) = some (.obj 29 1 [[.sc (.slice none 0 0)]] false) ∧ s.H st.n = some (.obj 29 1 [[.sl (n + 1 + 1 + 1) 3 0 T.length]] false) ∧ s.H (n + 1 + 1 + 1) = some (.obj 137 3 (TL (clr T.length q T 0)) true)) ?_ ?_
        · refine ⟨t4, t9, ?_, ?_, ?_, ?_, ?_⟩ <;> simp [upd, ne5, h1, h3, hcl, t8]
        rintro j s hj hb2 ⟨s4, s9, s10, s11, g1, g2, g3⟩
        simp (maxSteps := 400000) (dsimp := false) only [s4, s9, s10, s11, g1, g2, axs, AThen, ABlock, dstsOk, AStep, callsF, AWant, aop, AS.ev, AS.put, upd, AS.bound, abin, aint, aload, astore, cellsAt, AV.cells, alen, elems, AV.int?, FPost, aresL, ares1, pack, afill, splice, Value.oneCell', Nat.reduceLT, Nat.reduceLeDiff, Nat.reduceEqDiff, Nat.reduceAdd, Nat.reduceMul, Nat.reduceSub, Nat.reduceBEq, Int.reduceLE, Int.reduceLT, Int.reduceToNat, Int.reduceNeg, Int.reduceEq, axt, ftK, ft3, pickP, AScope, AAll, pickQ, ftQ, inHeap, RT, Sl3.cells, tys]
        have e0 : rel T.length (hm T.length) T q 0 0 = clr T.length q T 0 := rfl
        rw [e0]
        refine ⟨_, rfl, ?_⟩; simp (maxSteps := 400000) (dsimp := false) only [SeesL, axs, AThen, ABlock, dstsOk, AStep, callsF, AWant, aop, AS.ev, AS.put, upd, AS.bound, abin, aint, aload, astore, cellsAt, AV.cells, alen, elems, AV.int?, FPost, aresL, ares1, pack, afill, splice, Value.oneCell', Nat.reduceLT, Nat.reduceLeDiff, Nat.reduceEqDiff, Nat.reduceAdd, Nat.reduceMul, Nat.reduceSub, Nat.reduceBEq, Int.reduceLE, Int.reduceLT, Int.reduceToNat, Int.reduceNeg, Int.reduceEq, axt, ftK, ft3, pickP, AScope, AAll, pickQ, ftQ, inHeap, RT, Sl3.cells, tys] <;> repeat' (first | exact True.intro | exact Sees.sc | exact Sees.none | ((with_reducible refine Sees.same ?_) <;> simp [noIds, noIdsL, noIdsE, noIdsE_U, noIdsE_UU, noIdsE_TL] <;> fail) | (refine Live.sees ?_ ?_ <;> first | assumption | (simp [noIdsE_U, noIdsE_UU, noIdsE_TL] <;> fail)) | (refine Sees.obj ?_ ?_ ?_ <;> first | exact ⟨_, _, by assumption, rfl⟩ | (simp [U_len, UU_len, TL_len] <;> fail) | (simp [noIdsE_U, noIdsE_UU, noIdsE_TL] <;> fail) | (simp [U, UU, upd, neS] <;> fail) | (simp [U, UU, upd, neS, *] <;> fail)) | refine Sees.agg ?_ | refine Sees.tup ?_ | refine And.intro ?_ ?_ | simp only [SeesL])
        exact Sees.obj ⟨_, _, (by rw [upd_ne _ _ (by omega)]; exact g3), rfl⟩ (by rw [TL_len, hcl]) (noIdsE_TL _)
      · rw [e1] at t9
        obtain ⟨q1, q2⟩ := hid _ _ e1
        rw [TL_len, hrl] at t9
        refine ALoop.upto m (fun j s => s.t 4 = .ptr (n + 1) 1 0 0 ∧ s.t 9 = .sl id 3 0 m ∧ s.t 10 = .ptr st.n 1 0 0 ∧ s.t 11 = .sc (.int .i64 j) ∧ s.H (n + 1) = some (.obj 29 1 [[.sc (.slice none 0 0)]] false) ∧ s.H id = some (.obj 137 3 (TL (rsT T q m)) false) ∧ ∃ w, s.H st.n = some (.obj 29 1 [[w]] false) ∧ TabV 137 (n + 1 + 1 + 1) s.H (rel T.length (hm T.length) T q m j) w) ?_ ?_
        · have ne6 : ¬ id = st.n ∧ ¬ id = n + 1 + 1 + 1 := by omega
          refine ⟨t4, t9, rfl, rfl, ?_, ?_, .sl (n + 1 + 1 + 1) 3 0 T.length, ?_, .inr ⟨by rw [show (rel T.length (hm T.length) T q m 0).length = T.length from hcl], ?_⟩⟩
          · simp [upd, ne5, h1]
          · simp [upd, ne5, ne6, e2]
          · simp [upd, ne5, hcl, t8]
          · simp [upd, ne5]; rfl
        rintro j s hj hb2 ⟨s4, s9, s10, s11, g1, g2, w, g3, g4⟩
        have hhj := hhf j hj
        have hlen := hhj.inv.len
        by_cases hx2 : j < m
        · have hxf := hc.on (j + 1) (by omega) (by omega)
          have hkk := ok.keys _ ⟨hxf, _, adv_lt hql (by omega), rfl⟩
          have hrm : Room T.length (rel T.length (hm T.length) T q m j) := by
            refine ⟨(shf T.length (hm T.length) T q j).2, hhj.hole, ?_⟩
            rw [hhj.same _ hhj.hole, if_pos rfl]; rfl
          have hlay := rHtLay (T := rel T.length (hm T.length) T q m j) (by rw [hlen]; exact hp) (by rw [hlen]; exact hrm) (sl T (adv T.length q (j + 1))) hkk
          rw [hlen] at hlay
          have hlay : PCalls Try.prog 87 [RT (rel T.length (hm T.length) T q m j), .agg (sl T (adv T.length q (j + 1))).cells] (RT (rel T.length (hm T.length) T q m (j + 1))) := hlay
          have hgj := TL_geti (rsT_get (T := T) (q := q) hx2)
          have y0 : (0 : Int) ≤ (j : Int) := by omega
          have y1 : (j : Int) < (m : Int) := by omega
          have w6 : IntKind.i64.wrap ((j : Int) + 1) = ((j + 1 : Nat) : Int) := by rw [wrap_in (by omega) (by omega)]; omega
          generalize rel T.length (hm T.length) T q m (j + 1) = V at *
          generalize rel T.length (hm T.length) T q m j = W at *
          rcases g4 with rfl | ⟨rfl, hid4⟩
          · simp (maxSteps := 400000) (dsimp := false) only [s9, s10, s11, y0, y1, axs, AThen, ABlock, dstsOk, AStep, callsF, AWant, aop, AS.ev, AS.put, upd, AS.bound, abin, aint, aload, astore, cellsAt, AV.cells, alen, elems, AV.int?, FPost, aresL, ares1, pack, afill, splice, Value.oneCell', Nat.reduceLT, Nat.reduceLeDiff, Nat.reduceEqDiff, Nat.reduceAdd, Nat.reduceMul, Nat.reduceSub, Nat.reduceBEq, Int.reduceLE, Int.reduceLT, Int.reduceToNat, Int.reduceNeg, Int.reduceEq, axt, ftK, ft3, pickP, AScope, AAll, pickQ, ftQ, inHeap, RT, Sl3.cells, tys]
            refine ADraw.planR [5] [(0, true), (1, true), (2, true), (3, true), (4, true), (5, true), (6, true)] [(0, false), (0, false), (0, false), (0, false), (0, false), (0, true), (0, false)] mixed (by kernel_rfl) (by kernel_rfl) ?_
            simp (maxSteps := 400000) (dsimp := false) only [s9, s10, s11, g2, g3, y0, y1, hgj, axs, AThen, ABlock, dstsOk, AStep, callsF, AWant, aop, AS.ev, AS.put, upd, AS.bound, abin, aint, aload, astore, cellsAt, AV.cells, alen, elems, AV.int?, FPost, aresL, ares1, pack, afill, splice, Value.oneCell', Nat.reduceLT, Nat.reduceLeDiff, Nat.reduceEqDiff, Nat.reduceAdd, Nat.reduceMul, Nat.reduceSub, Nat.reduceBEq, Int.reduceLE, Int.reduceLT, Int.reduceToNat, Int.reduceNeg, Int.reduceEq, axt, ftK, ft3, pickP, AScope, AAll, pickQ, ftQ, inHeap, RT, Sl3.cells, tys]
            refine ASoloK.strict rfl rfl (hlay) (by simp only [SeesL, s10, g3, s11, w6, axs, axt, AS.ev, AS.put, upd, inHeap, Nat.reduceLT, Nat.reduceEqDiff, Nat.reduceAdd, Nat.reduceBEq, RT, Sl3.cells]; repeat' (first | exact True.intro | exact Sees.sc | exact Sees.none | ((with_reducible refine Sees.same ?_) <;> simp [noIds, noIdsL, noIdsE, noIdsE_U, noIdsE_UU, noIdsE_TL] <;> fail) | (refine Live.sees ?_ ?_ <;> first | assumption | (simp [noIdsE_U, noIdsE_UU, noIdsE_TL] <;> fail)) | (refine Sees.obj ?_ ?_ ?_ <;> first | exact ⟨_, _, by assumption, rfl⟩ | (simp [U_len, UU_len, TL_len] <;> fail) | (simp [noIdsE_U, noIdsE_UU, noIdsE_TL] <;> fail) | (simp [U, UU, upd] <;> fail) | (simp [U, UU, upd, neS, *] <;> fail)) | (refine Sees.of_seen 3 ?_ <;> simp [seen, upd, noIdsE, noIdsL, noIds, U, UU, Nat.add_assoc] <;> fail) | refine Sees.agg ?_ | refine And.intro ?_ ?_ | simp only [SeesL])) ?_; simp (maxSteps := 400000) (dsimp := false) only [s10, g3, s11, w6, axs, AThen, ABlock, dstsOk, AStep, callsF, AWant, aop, AS.ev, AS.put, upd, AS.bound, abin, aint, aload, astore, cellsAt, AV.cells, alen, elems, AV.int?, FPost, aresL, ares1, pack, afill, splice, Value.oneCell', Nat.reduceLT, Nat.reduceLeDiff, Nat.reduceEqDiff, Nat.reduceAdd, Nat.reduceMul, Nat.reduceSub, Nat.reduceBEq, Int.reduceLE, Int.reduceLT, Int.reduceToNat, Int.reduceNeg, Int.reduceEq, axt, ftK, ft3, pickP, AScope, AAll, pickQ, ftQ, inHeap, RT, Sl3.cells, tys]
            exact ⟨hx2, s4, s9, by rw [if_neg (by omega)]; exact g1, by rw [if_neg (by omega)]; exact g2, _, rfl, .inl rfl⟩
          · simp (maxSteps := 400000) (dsimp := false) only [s9, s10, s11, y0, y1, axs, AThen, ABlock, dstsOk, AStep, callsF, AWant, aop, AS.ev, AS.put, upd, AS.bound, abin, aint, aload, astore, cellsAt, AV.cells, alen, elems, AV.int?, FPost, aresL, ares1, pack, afill, splice, Value.oneCell', Nat.reduceLT, Nat.reduceLeDiff, Nat.reduceEqDiff, Nat.reduceAdd, Nat.reduceMul, Nat.reduceSub, Nat.reduceBEq, Int.reduceLE, Int.reduceLT, Int.reduceToNat, Int.reduceNeg, Int.reduceEq, axt, ftK, ft3, pickP, AScope, AAll, pickQ, ftQ, inHeap, RT, Sl3.cells, tys]
            refine ADraw.planR [5] [(0, true), (1, true), (2, true), (3, true), (4, true), (5, true), (6, true)] [(0, false), (0, false), (0, false), (0, false), (0, false), (0, true), (0, false)] mixed (by kernel_rfl) (by kernel_rfl) ?_
            simp (maxSteps := 400000) (dsimp := false) only [s9, s10, s11, g2, g3, y0, y1, hgj, axs, AThen, ABlock, dstsOk, AStep, callsF, AWant, aop, AS.ev, AS.put, upd, AS.bound, abin, aint, aload, astore, cellsAt, AV.cells, alen, elems, AV.int?, FPost, aresL, ares1, pack, afill, splice, Value.oneCell', Nat.reduceLT, Nat.reduceLeDiff, Nat.reduceEqDiff, Nat.reduceAdd, Nat.reduceMul, Nat.reduceSub, Nat.reduceBEq, Int.reduceLE, Int.reduceLT, Int.reduceToNat, Int.reduceNeg, Int.reduceEq, axt, ftK, ft3, pickP, AScope, AAll, pickQ, ftQ, inHeap, RT, Sl3.cells, tys]
            refine ASoloK.strict rfl rfl (hlay) (by simp only [SeesL, s10, g3, s11, w6, axs, axt, AS.ev, AS.put, upd, inHeap, Nat.reduceLT, Nat.reduceEqDiff, Nat.reduceAdd, Nat.reduceBEq, RT, Sl3.cells]; repeat' (first | exact True.intro | exact Sees.sc | exact Sees.none | ((with_reducible refine Sees.same ?_) <;> simp [noIds, noIdsL, noIdsE, noIdsE_U, noIdsE_UU, noIdsE_TL] <;> fail) | (refine Live.sees ?_ ?_ <;> first | assumption | (simp [noIdsE_U, noIdsE_UU, noIdsE_TL] <;> fail)) | (refine Sees.obj ?_ ?_ ?_ <;> first | exact ⟨_, _, by assumption, rfl⟩ | (simp [U_len, UU_len, TL_len] <;> fail) | (simp [noIdsE_U, noIdsE_UU, noIdsE_TL] <;> fail) | (simp [U, UU, upd] <;> fail) | (simp [U, UU, upd, neS, *] <;> fail)) | (refine Sees.of_seen 3 ?_ <;> simp [seen, upd, noIdsE, noIdsL, noIds, U, UU, Nat.add_assoc] <;> fail) | refine Sees.agg ?_ | refine And.intro ?_ ?_ | simp only [SeesL])) ?_; simp (maxSteps := 400000) (dsimp := false) only [s10, g3, s11, w6, axs, AThen, ABlock, dstsOk, AStep, callsF, AWant, aop, AS.ev, AS.put, upd, AS.bound, abin, aint, aload, astore, cellsAt, AV.cells, alen, elems, AV.int?, FPost, aresL, ares1, pack, afill, splice, Value.oneCell', Nat.reduceLT, Nat.reduceLeDiff, Nat.reduceEqDiff, Nat.reduceAdd, Nat.reduceMul, Nat.reduceSub, Nat.reduceBEq, Int.reduceLE, Int.reduceLT, Int.reduceToNat, Int.reduceNeg, Int.reduceEq, axt, ftK, ft3, pickP, AScope, AAll, pickQ, ftQ, inHeap, RT, Sl3.cells, tys]
            exact ⟨hx2, s4, s9, by rw [if_neg (by omega)]; exact g1, by rw [if_neg (by omega)]; exact g2, _, rfl, .inl rfl⟩
        · have hjm : j = m := by omega
          subst hjm
          have y1 : ¬ (j : Int) < (j : Int) := by omega
          simp (maxSteps := 400000) (dsimp := false) only [s4, s9, s10, s11, y1, g1, g3, axs, AThen, ABlock, dstsOk, AStep, callsF, AWant, aop, AS.ev, AS.put, upd, AS.bound, abin, aint, aload, astore, cellsAt, AV.cells, alen, elems, AV.int?, FPost, aresL, ares1, pack, afill, splice, Value.oneCell', Nat.reduceLT, Nat.reduceLeDiff, Nat.reduceEqDiff, Nat.reduceAdd, Nat.reduceMul, Nat.reduceSub, Nat.reduceBEq, Int.reduceLE, Int.reduceLT, Int.reduceToNat, Int.reduceNeg, Int.reduceEq, axt, ftK, ft3, pickP, AScope, AAll, pickQ, ftQ, inHeap, RT, Sl3.cells, tys]
          rcases g4 with rfl | ⟨rfl, hid4⟩
          · refine ⟨_, rfl, ?_⟩; simp (maxSteps := 400000) (dsimp := false) only [SeesL, axs, AThen, ABlock, dstsOk, AStep, callsF, AWant, aop, AS.ev, AS.put, upd, AS.bound, abin, aint, aload, astore, cellsAt, AV.cells, alen, elems, AV.int?, FPost, aresL, ares1, pack, afill, splice, Value.oneCell', Nat.reduceLT, Nat.reduceLeDiff, Nat.reduceEqDiff, Nat.reduceAdd, Nat.reduceMul, Nat.reduceSub, Nat.reduceBEq, Int.reduceLE, Int.reduceLT, Int.reduceToNat, Int.reduceNeg, Int.reduceEq, axt, ftK, ft3, pickP, AScope, AAll, pickQ, ftQ, inHeap, RT, Sl3.cells, tys] <;> repeat' (first | exact True.intro | exact Sees.sc | exact Sees.none | ((with_reducible refine Sees.same ?_) <;> simp [noIds, noIdsL, noIdsE, noIdsE_U, noIdsE_UU, noIdsE_TL] <;> fail) | (refine Live.sees ?_ ?_ <;> first | assumption | (simp [noIdsE_U, noIdsE_UU, noIdsE_TL] <;> fail)) | (refine Sees.obj ?_ ?_ ?_ <;> first | exact ⟨_, _, by assumption, rfl⟩ | (simp [U_len, UU_len, TL_len] <;> fail) | (simp [noIdsE_U, noIdsE_UU, noIdsE_TL] <;> fail) | (simp [U, UU, upd, neS] <;> fail) | (simp [U, UU, upd, neS, *] <;> fail)) | refine Sees.agg ?_ | refine Sees.tup ?_ | refine And.intro ?_ ?_ | simp only [SeesL])
          · refine ⟨_, rfl, ?_⟩; simp (maxSteps := 400000) (dsimp := false) only [SeesL, axs, AThen, ABlock, dstsOk, AStep, callsF, AWant, aop, AS.ev, AS.put, upd, AS.bound, abin, aint, aload, astore, cellsAt, AV.cells, alen, elems, AV.int?, FPost, aresL, ares1, pack, afill, splice, Value.oneCell', Nat.reduceLT, Nat.reduceLeDiff, Nat.reduceEqDiff, Nat.reduceAdd, Nat.reduceMul, Nat.reduceSub, Nat.reduceBEq, Int.reduceLE, Int.reduceLT, Int.reduceToNat, Int.reduceNeg, Int.reduceEq, axt, ftK, ft3, pickP, AScope, AAll, pickQ, ftQ, inHeap, RT, Sl3.cells, tys] <;> repeat' (first | exact True.intro | exact Sees.sc | exact Sees.none | ((with_reducible refine Sees.same ?_) <;> simp [noIds, noIdsL, noIdsE, noIdsE_U, noIdsE_UU, noIdsE_TL] <;> fail) | (refine Live.sees ?_ ?_ <;> first | assumption | (simp [noIdsE_U, noIdsE_UU, noIdsE_TL] <;> fail)) | (refine Sees.obj ?_ ?_ ?_ <;> first | exact ⟨_, _, by assumption, rfl⟩ | (simp [U_len, UU_len, TL_len] <;> fail) | (simp [noIdsE_U, noIdsE_UU, noIdsE_TL] <;> fail) | (simp [U, UU, upd, neS] <;> fail) | (simp [U, UU, upd, neS, *] <;> fail)) | refine Sees.agg ?_ | refine Sees.tup ?_ | refine And.intro ?_ ?_ | simp only [SeesL])
end Go.Al
end
