/- Numbers by keys, in slots, by the program: how a table grows. Conditions: the numbers fit their kinds. -/
import Derived.Test.YtdebjhjnpomlmaaHx5
set_option linter.unusedVariables false
set_option linter.unusedSimpArgs false
set_option maxRecDepth 20000
set_option maxHeartbeats 1600000
namespace Go.Al
open Go.Proofs
def rehP (T : Tb) (p : Nat) : Tb := relay (2 * T.length) (hm (2 * T.length)) (List.replicate (2 * T.length) z3) (T.take p)
theorem rehP_all (T : Tb) : rehP T T.length = rehash T := by
  unfold rehP rehash relay
  rw [List.take_length]
theorem rehP_succ {T : Tb} {p : Nat} (hp : p < T.length) : rehP T (p + 1) = if (sl T p).full then lay1 (2 * T.length) (hm (2 * T.length)) (rehP T p) (sl T p) else rehP T p := by
  have : T.take (p + 1) = T.take p ++ [sl T p] := by rw [List.take_add_one, sl_get hp]; rfl
  unfold rehP relay
  rw [this, List.foldl_append]
  rfl
theorem rehP_part {T : Tb} (hl : 0 < T.length) {h : Int → Nat} (hi : HInv T.length h T) (p : Nat) : HInv (2 * T.length) (hm (2 * T.length)) (rehP T p) ∧ Room (2 * T.length) (rehP T p) ∧ (rehP T p).length = 2 * T.length := by
  have hc : (T.take p).countP (·.full) ≤ T.length := Nat.le_trans List.countP_le_length (by simp; omega)
  obtain ⟨q1, q2, q3⟩ := relay_all (N := 2 * T.length) (h := hm (2 * T.length)) (fun k => hm_lt (by omega) k) (T.take p) (List.replicate (2 * T.length) z3) (empty_inv _ _) (by rw [empty_cnt]; omega) (fun t ht => absurd ht (empty_mem _ _)) ((inv_pair hi).sublist (List.take_sublist _ _))
  have hlen := q1.len
  refine ⟨q1, ?_, hlen⟩
  rw [empty_cnt] at q2
  have := room_of (T := rehP T p) (by rw [show cnt (rehP T p) = _ from q2]; unfold rehP; omega)
  rwa [show (rehP T p).length = 2 * T.length from hlen] at this
theorem HtH.setAt {H : AH} {n a s : Nat} {T : Tb} {m : Int} (h : HtH H n a s T m) (q : Nat) (x : Sl3) : HtH (upd H s (some (.obj 130 3 (TL (T.set q x)) false))) n a s (T.set q x) m :=
  ⟨by rw [upd_ne _ _ h.ne, List.length_set]; exact h.ha, upd_same _ _ _, h.la, h.ls⟩
theorem cGrow {H : AH} {n a s : Nat} {T : Tb} {m : Int} (h : HtH H n a s T m) (hp : Pw T.length) (hp2 : Pw (2 * T.length)) (hi : HInv T.length (hm T.length) T) (hkeys : ∀ t, Mem T t → Key t.key) :
    HCalls Try.prog 92 [.ptr a 2 0 0] H n fun r H' n' => r = .tup [] ∧ HtH H' n' a n (rehash T) m ∧ n ≤ n' ∧ ∀ j, j < n → j ≠ a → H' j = H j := by
  have ha := h.ha
  have hs := h.hs
  have la := h.la
  have ls := h.ls
  have hne := h.ne
  have hl := hp.le
  have hl2 := hp2.le
  have hneq : ¬ a = n ∧ ¬ n = a ∧ ¬ s = n ∧ ¬ n = s ∧ ¬ a = s ∧ ¬ s = a := by and_intros <;> omega
  have w1 : IntKind.i64.wrap ((T.length : Int) * 2) = ((2 * T.length : Nat) : Int) := by rw [wrap_in (by omega) (by omega)]; omega
  have w1' : IntKind.i64.wrap (2 * (T.length : Int)) = ((2 * T.length : Nat) : Int) := by rw [wrap_in (by omega) (by omega)]; omega
  have b1 : (0 : Int) ≤ ((2 * T.length : Nat) : Int) := by omega
  have b2 : ((2 * T.length : Nat) : Int) * 16 ≤ 140737488355328 := by omega
  have b3 : ((2 * T.length : Nat) : Int) ≤ 1099511627776 := by omega
  have hrep := TL_rep (2 * T.length)
  have hpart := fun p => rehP_part (T := T) (by omega) hi p
  refine HCalls.walk Try.func92 rfl rfl Try.ntmps92 Try.results92 (by simp) ?_; simp (maxSteps := 400000) (dsimp := false) only [ha, w1, w1', b1, b2, b3, hneq, hrep, axs, AThen, ABlock, dstsOk, AStep, callsF, AWant, aop, AS.ev, AS.put, upd, AS.bound, abin, aint, aload, astore, cellsAt, AV.cells, alen, elems, AV.int?, FPost, aresL, ares1, pack, afill, splice, Value.oneCell', Nat.reduceLT, Nat.reduceLeDiff, Nat.reduceEqDiff, Nat.reduceAdd, Nat.reduceMul, Nat.reduceSub, Nat.reduceBEq, Int.reduceLE, Int.reduceLT, Int.reduceToNat, Int.reduceNeg, Int.reduceEq, axt, ftK, ft3, pickP, AScope, AAll, pickQ, ftQ, inHeap, tys]
  refine ALoop.upto T.length (fun p st => st.t 0 = .ptr a 2 0 0 ∧ st.t 16 = .sl s 3 0 T.length ∧ st.t 17 = .sc (.int .i64 T.length) ∧ st.t 18 = .sc (.int .i64 p) ∧ HtH st.H st.n a n (rehP T p) m ∧ st.H s = some (.obj 130 3 (TL T) false) ∧ n ≤ st.n ∧ ∀ j, j < n → j ≠ a → st.H j = H j) ?_ ?_
  · refine ⟨rfl, rfl, rfl, rfl, ⟨?_, ?_, by show a < n + 1; omega, by show n < n + 1; omega⟩, ?_, by show n ≤ n + 1; omega, ?_⟩
    · simp [upd, rehP, relay]
    · simp [upd, hneq, rehP, relay]
    · simp [upd, hneq, hs]
    · intro j hj hja
      have : ¬ j = n := by omega
      simp [upd, hja, this]
  rintro p st hpl hb ⟨t0, t16, t17, t18, hu, hso, hn, hkp⟩
  obtain ⟨i1, i2, i3⟩ := hpart p
  have hua := hu.ha
  have hus := hu.hs
  have hua2 : a < st.n := hu.la
  have hus2 : n < st.n := hu.ls
  by_cases hx : p < T.length
  · have x1 : (p : Int) < T.length := by omega
    have x0 : (0 : Int) ≤ p := by omega
    have hg := TL_get hx
    have w2 : IntKind.i64.wrap ((p : Int) + 1) = ((p + 1 : Nat) : Int) := by rw [wrap_in (by omega) (by omega)]; omega
    have hsu := rehP_succ hx
    have nes : ¬ a = st.n ∧ ¬ st.n = a ∧ ¬ s = st.n ∧ ¬ st.n = s ∧ ¬ n = st.n ∧ ¬ st.n = n := by and_intros <;> omega
    have hmem : (sl T p).full = true → Mem T (sl T p) := fun e => ⟨e, p, hx, rfl⟩
    cases hf : (sl T p).full with
    | false =>
      simp (maxSteps := 400000) (dsimp := false) only [t0, t16, t17, t18, x0, x1, hso, hg, hf, w2, nes, upd_upd, axs, AThen, ABlock, dstsOk, AStep, callsF, AWant, aop, AS.ev, AS.put, upd, AS.bound, abin, aint, aload, astore, cellsAt, AV.cells, alen, elems, AV.int?, FPost, aresL, ares1, pack, afill, splice, Value.oneCell', Nat.reduceLT, Nat.reduceLeDiff, Nat.reduceEqDiff, Nat.reduceAdd, Nat.reduceMul, Nat.reduceSub, Nat.reduceBEq, Int.reduceLE, Int.reduceLT, Int.reduceToNat, Int.reduceNeg, Int.reduceEq, axt, ftK, ft3, pickP, AScope, AAll, pickQ, ftQ, inHeap, tys]
      rw [hf] at hsu
      refine ⟨hx, by rw [hsu]; exact hu.new, by omega, fun j hj hja => ?_⟩
      rw [if_neg (by omega)]; exact hkp j hj hja
    | true =>
      have hkk := hkeys _ (hmem hf)
      rw [hf] at hsu
      have hq := hFind_room (k := (sl T p).key) (hm_lt (by omega) _) i2
      have hsu : rehP T (p + 1) = (rehP T p).set (hFind (2 * T.length) (hm (2 * T.length)) (rehP T p) (sl T p).key) (sl T p) := hsu
      generalize hFind (2 * T.length) (hm (2 * T.length)) (rehP T p) (sl T p).key = q at *
      generalize rehP T (p + 1) = V at *
      generalize rehP T p = U at *
      rw [← i3] at hq hp2
      have r0 : (0 : Int) ≤ q := by omega
      have r1 : (q : Int) < U.length := by have := hq.lt; omega
      have hgu := TL_get hq.lt
      have e0 : ∀ (j : Nat) (x : Option AO), fdH (upd st.H st.n x) (st.n + 1) U (hm U.length (sl T p).key) j n = some (.obj 130 3 (TL U) false) := fun j x => by rw [fdH_old _ _ (by omega), upd_ne _ _ (by omega)]; exact hus
      have hset := TL_set U q (sl T p)
      rw [hf] at hset
      simp (maxSteps := 400000) (dsimp := false) only [t0, t16, t17, t18, x0, x1, hso, hg, hf, w2, nes, upd_upd, axs, AThen, ABlock, dstsOk, AStep, callsF, AWant, aop, AS.ev, AS.put, upd, AS.bound, abin, aint, aload, astore, cellsAt, AV.cells, alen, elems, AV.int?, FPost, aresL, ares1, pack, afill, splice, Value.oneCell', Nat.reduceLT, Nat.reduceLeDiff, Nat.reduceEqDiff, Nat.reduceAdd, Nat.reduceMul, Nat.reduceSub, Nat.reduceBEq, Int.reduceLE, Int.reduceLT, Int.reduceToNat, Int.reduceNeg, Int.reduceEq, axt, ftK, ft3, pickP, AScope, AAll, pickQ, ftQ, inHeap, tys]
      refine ADraw.planQR [] [7] [(0, true), (1, true), (2, true), (3, true), (4, true), (5, true), (6, true), (8, true), (7, true), (9, true), (10, true)] [(0, 0), (0, 0), (0, 0), (0, 0), (0, 0), (0, 0), (0, 0), (1, 0), (0, 2), (0, 0), (0, 0)] mixed (by kernel_rfl) (by kernel_rfl) ?_
      simp (maxSteps := 400000) (dsimp := false) only [t0, hua, nes, axs, AThen, ABlock, dstsOk, AStep, callsF, AWant, aop, AS.ev, AS.put, upd, AS.bound, abin, aint, aload, astore, cellsAt, AV.cells, alen, elems, AV.int?, FPost, aresL, ares1, pack, afill, splice, Value.oneCell', Nat.reduceLT, Nat.reduceLeDiff, Nat.reduceEqDiff, Nat.reduceAdd, Nat.reduceMul, Nat.reduceSub, Nat.reduceBEq, Int.reduceLE, Int.reduceLT, Int.reduceToNat, Int.reduceNeg, Int.reduceEq, axt, ftK, ft3, pickP, AScope, AAll, pickQ, ftQ, inHeap, tys]
      refine AQuietK.intro rfl rfl (cFind hu.new hp2 hkk hq) (fun id hid => fdH_old _ _ hid) ?_
      simp (maxSteps := 400000) (dsimp := false) only [e0, r0, r1, hgu, hset, t18, w2, t0, t16, t17, axs, AThen, ABlock, dstsOk, AStep, callsF, AWant, aop, AS.ev, AS.put, upd, AS.bound, abin, aint, aload, astore, cellsAt, AV.cells, alen, elems, AV.int?, FPost, aresL, ares1, pack, afill, splice, Value.oneCell', Nat.reduceLT, Nat.reduceLeDiff, Nat.reduceEqDiff, Nat.reduceAdd, Nat.reduceMul, Nat.reduceSub, Nat.reduceBEq, Int.reduceLE, Int.reduceLT, Int.reduceToNat, Int.reduceNeg, Int.reduceEq, axt, ftK, ft3, pickP, AScope, AAll, pickQ, ftQ, inHeap, tys]
      have hold : ∀ (j i : Nat) (x : Option AO), j < st.n → fdH (upd st.H st.n x) (st.n + 1) U (hm U.length (sl T p).key) i j = st.H j := fun j i x hj => by rw [fdH_old _ _ (by omega), upd_ne _ _ (by omega)]
      refine ⟨hx, ?_, ?_, by omega, fun j hj hja => ?_⟩
      · rw [hsu]
        exact (hu.new.keeps (fdH_keeps _ _ _ _ _)).setAt q (sl T p)
      · rw [if_neg (by omega), hold _ _ _ (by omega), hso]
      · rw [if_neg (by omega), hold _ _ _ (by omega)]; exact hkp j hj hja
  · have x1 : ¬ (p : Int) < T.length := by omega
    simp (maxSteps := 400000) (dsimp := false) only [t17, t18, x1, axs, AThen, ABlock, dstsOk, AStep, callsF, AWant, aop, AS.ev, AS.put, upd, AS.bound, abin, aint, aload, astore, cellsAt, AV.cells, alen, elems, AV.int?, FPost, aresL, ares1, pack, afill, splice, Value.oneCell', Nat.reduceLT, Nat.reduceLeDiff, Nat.reduceEqDiff, Nat.reduceAdd, Nat.reduceMul, Nat.reduceSub, Nat.reduceBEq, Int.reduceLE, Int.reduceLT, Int.reduceToNat, Int.reduceNeg, Int.reduceEq, axt, ftK, ft3, pickP, AScope, AAll, pickQ, ftQ, inHeap, tys]
    have : p = T.length := by omega
    subst this
    rw [rehP_all] at hu
    exact ⟨_, rfl, rfl, hu, hn, hkp⟩
end Go.Al
