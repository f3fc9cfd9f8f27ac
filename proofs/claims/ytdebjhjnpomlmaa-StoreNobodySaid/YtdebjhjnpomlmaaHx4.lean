/- Numbers by keys, in slots, by the program: where a table lies, and how a key is looked for. Conditions: the numbers fit their kinds. -/
import Derived.Test.YtdebjhjnpomlmaaHx3
set_option linter.unusedVariables false
set_option linter.unusedSimpArgs false
set_option maxRecDepth 20000
set_option maxHeartbeats 1600000
namespace Go.Al
open Go.Proofs
def Sl3.cells (x : Sl3) : List AV := [.sc (.int .u64 x.key), .sc (.int .i32 x.n), .sc (.bool x.full)]
def TL (T : Tb) : List (List AV) := T.map Sl3.cells
theorem TL_len (T : Tb) : (TL T).length = T.length := by simp [TL]
theorem TL_get {T : Tb} {q : Nat} (h : q < T.length) : (TL T)[q]? = some [.sc (.int .u64 (sl T q).key), .sc (.int .i32 (sl T q).n), .sc (.bool (sl T q).full)] := by
  simp [TL, sl_get h, Sl3.cells]
theorem TL_set (T : Tb) (q : Nat) (x : Sl3) : (TL T).set q [.sc (.int .u64 x.key), .sc (.int .i32 x.n), .sc (.bool x.full)] = TL (T.set q x) := by
  simp [TL, Sl3.cells]
theorem TL_rep (m : Nat) : List.replicate m [.sc (.int .u64 0), .sc (.int .i32 0), .sc (.bool false)] = TL (List.replicate m z3) := by simp [TL, Sl3.cells, z3]
theorem noIdsE_TL (T : Tb) : noIdsE (TL T) = true := noIdsE_map _ (fun x => by simp [Sl3.cells, noIdsL, noIds]) T
/-- Where a table lies: its struct at a, its slots at s; both below n; it says to have m. -/
structure HtH (H : AH) (n a s : Nat) (T : Tb) (m : Int) : Prop where
  ha : H a = some (.obj 106 2 [[.sl s 3 0 T.length, .sc (.int .i64 m)]] false)
  hs : H s = some (.obj 130 3 (TL T) false)
  la : a < n
  ls : s < n
theorem HtH.ne {H : AH} {n a s : Nat} {T : Tb} {m : Int} (h : HtH H n a s T m) : a ≠ s := by
  rintro rfl
  have := h.ha.symm.trans h.hs
  simp at this
theorem HtH.keep {H H' : AH} {n n' a s : Nat} {T : Tb} {m : Int} (h : HtH H n a s T m) (hn : n ≤ n') (hk : ∀ j, j < n → j = a ∨ j = s → H' j = H j) : HtH H' n' a s T m :=
  ⟨by rw [hk _ h.la (.inl rfl)]; exact h.ha, by rw [hk _ h.ls (.inr rfl)]; exact h.hs, Nat.lt_of_lt_of_le h.la hn, Nat.lt_of_lt_of_le h.ls hn⟩
theorem HtH.new {H : AH} {n a s : Nat} {T : Tb} {m : Int} {x : Option AO} (h : HtH H n a s T m) : HtH (upd H n x) (n + 1) a s T m :=
  h.keep (by omega) fun j hj _ => upd_ne _ _ (by omega)
/-- A table's length is a power of two. -/
def Pw (N : Nat) : Prop := ∃ p, 3 ≤ p ∧ p ≤ 20 ∧ N = 2 ^ p
theorem Pw.le {N : Nat} (h : Pw N) : 8 ≤ N ∧ N ≤ 1048576 := by
  obtain ⟨p, h1, h2, rfl⟩ := h
  have a1 : 2 ^ 3 ≤ 2 ^ p := Nat.pow_le_pow_right (by omega) h1
  have a2 : 2 ^ p ≤ 2 ^ 20 := Nat.pow_le_pow_right (by omega) h2
  exact ⟨by simpa using a1, by simpa using a2⟩
def Key (k : Int) : Prop := 0 ≤ k ∧ k < 18446744073709551616
theorem hm_home {N : Nat} (h : Pw N) {k : Int} (hk : Key k) : homeF k (N : Int) = (hm N k : Int) := by
  obtain ⟨p, h1, h2, rfl⟩ := h
  have e : (((2 ^ p : Nat)) : Int) = (2 : Int) ^ p := by push_cast; rfl
  obtain ⟨g0, g1, _⟩ := home_rng hk.1 hk.2 (p := p) (by omega)
  unfold hm
  rw [e]
  rw [Nat.mod_eq_of_lt (by omega)]
  omega
theorem hm_homeR {N : Nat} (h : Pw N) {k : Int} (hk : Key k) : homeR k (N : Int) = (hm N k : Int) := by
  rw [homeR_eq hk.1 hk.2, hm_home h hk]
theorem and_mask {x : Int} (h0 : 0 ≤ x) {p : Nat} (hp : p < 31) : Go.bits .and .i64 x ((2 : Int) ^ p - 1) = x % 2 ^ p := by
  have hq := pow31 p hp
  have ep : (2 : Int) ^ p = ((2 ^ p : Nat) : Int) := by push_cast; rfl
  have hp1 : 1 ≤ 2 ^ p := Nat.one_le_two_pow
  have hp2 : 2 ^ p ≤ 2 ^ 30 := Nat.pow_le_pow_right (by omega) (by omega)
  show IntKind.i64.wrap ((BitVec.ofInt 64 x &&& BitVec.ofInt 64 ((2 : Int) ^ p - 1)).toNat : Int) = _
  have q1 : 0 ≤ x % 2 ^ p := Int.emod_nonneg _ (by omega)
  have q2 : x % 2 ^ p < 2 ^ p := Int.emod_lt_of_pos _ (by omega)
  have e2 : (((2 : Int) ^ p - 1) % 18446744073709551616).toNat = 2 ^ p - 1 := by
    rw [ep]; omega
  rw [BitVec.toNat_and, bvmod, bvmod, e2, Nat.and_two_pow_sub_one_eq_mod]
  have e3 : (((x % 18446744073709551616).toNat % 2 ^ p : Nat) : Int) = x % 2 ^ p := by
    rw [Int.natCast_emod, Int.toNat_of_nonneg (Int.emod_nonneg _ (by omega)), ← ep]
    refine Int.emod_emod_of_dvd _ ?_
    refine ⟨2 ^ (64 - p), ?_⟩
    rw [← Int.pow_add]
    have : p + (64 - p) = 64 := by omega
    rw [this]; rfl
  rw [e3]
  exact wrap_in q1 (by omega)
theorem and_next {N q : Nat} (h : Pw N) (hq : q < N) : Go.bits .and .i64 ((q : Int) + 1) ((N : Int) - 1) = (adv N q 1 : Int) := by
  obtain ⟨p, h1, h2, rfl⟩ := h
  have e : (((2 ^ p : Nat)) : Int) = (2 : Int) ^ p := by push_cast; rfl
  rw [e, and_mask (by omega) (by omega), ← e]
  unfold adv
  split
  · rw [Int.emod_eq_of_lt (by omega) (by omega)]; omega
  · have : (q : Int) + 1 = ((2 ^ p : Nat) : Int) := by omega
    rw [this, Int.emod_self]; omega
theorem rem_next {N q : Nat} (hq : q < N) : ((q : Int) + 1).tmod (N : Int) = (adv N q 1 : Int) := by
  rw [tmod_two (by omega) (by omega) (by omega)]
  unfold adv
  split
  · rw [if_pos (by omega)]; omega
  · rw [if_neg (by omega)]; omega
theorem cNext {H : AH} {n a s : Nat} {T : Tb} {m : Int} (h : HtH H n a s T m) (hp : Pw T.length) {q : Nat} (hq : q < T.length) :
    HCalls Try.prog 84 [.ptr a 2 0 0, .sc (.int .i64 q)] H n fun r H' n' => r = .sc (.int .i64 (adv T.length q 1)) ∧ H' = H ∧ n' = n := by
  have ha := h.ha
  have hl := hp.le
  have w1 : IntKind.i64.wrap ((q : Int) + 1) = (q : Int) + 1 := wrap_in (by omega) (by omega)
  have w2 : IntKind.i64.wrap ((T.length : Int) - 1) = (T.length : Int) - 1 := wrap_in (by omega) (by omega)
  have e := and_next hp hq
  refine HCalls.walk Try.func84 rfl rfl Try.ntmps84 Try.results84 (by simp) ?_; simp (maxSteps := 400000) (dsimp := false) only [axs, AThen, ABlock, dstsOk, AStep, callsF, AWant, aop, AS.ev, AS.put, upd, AS.bound, abin, aint, aload, astore, cellsAt, AV.cells, alen, elems, AV.int?, FPost, aresL, ares1, pack, afill, splice, Value.oneCell', Nat.reduceLT, Nat.reduceLeDiff, Nat.reduceEqDiff, Nat.reduceAdd, Nat.reduceMul, Nat.reduceSub, Nat.reduceBEq, Int.reduceLE, Int.reduceLT, Int.reduceToNat, Int.reduceNeg, Int.reduceEq, axt, ftK, ft3, pickP, AScope, AAll, pickQ, ftQ, inHeap, tys]
  simp (maxSteps := 400000) (dsimp := false) only [ha, w1, w2, e, axs, AThen, ABlock, dstsOk, AStep, callsF, AWant, aop, AS.ev, AS.put, upd, AS.bound, abin, aint, aload, astore, cellsAt, AV.cells, alen, elems, AV.int?, FPost, aresL, ares1, pack, afill, splice, Value.oneCell', Nat.reduceLT, Nat.reduceLeDiff, Nat.reduceEqDiff, Nat.reduceAdd, Nat.reduceMul, Nat.reduceSub, Nat.reduceBEq, Int.reduceLE, Int.reduceLT, Int.reduceToNat, Int.reduceNeg, Int.reduceEq, axt, ftK, ft3, pickP, AScope, AAll, pickQ, ftQ, inHeap, tys]
  exact ⟨_, rfl, rfl⟩
theorem cHtLen {H : AH} {n a s : Nat} {T : Tb} {m : Int} (h : HtH H n a s T m) :
    HCalls Try.prog 40 [.ptr a 2 0 0] H n fun r H' n' => r = .sc (.int .i64 m) ∧ H' = H ∧ n' = n := by
  have ha := h.ha
  refine HCalls.walk Try.func40 rfl rfl Try.ntmps40 Try.results40 (by simp) ?_; simp (maxSteps := 400000) (dsimp := false) only [ha, axs, AThen, ABlock, dstsOk, AStep, callsF, AWant, aop, AS.ev, AS.put, upd, AS.bound, abin, aint, aload, astore, cellsAt, AV.cells, alen, elems, AV.int?, FPost, aresL, ares1, pack, afill, splice, Value.oneCell', Nat.reduceLT, Nat.reduceLeDiff, Nat.reduceEqDiff, Nat.reduceAdd, Nat.reduceMul, Nat.reduceSub, Nat.reduceBEq, Int.reduceLE, Int.reduceLT, Int.reduceToNat, Int.reduceNeg, Int.reduceEq, axt, ftK, ft3, pickP, AScope, AAll, pickQ, ftQ, inHeap, tys]
  exact ⟨_, rfl, rfl⟩
theorem cHtSlots {H : AH} {n a s : Nat} {T : Tb} {m : Int} (h : HtH H n a s T m) :
    HCalls Try.prog 42 [.ptr a 2 0 0] H n fun r H' n' => r = .sc (.int .i64 T.length) ∧ H' = H ∧ n' = n := by
  have ha := h.ha
  refine HCalls.walk Try.func42 rfl rfl Try.ntmps42 Try.results42 (by simp) ?_; simp (maxSteps := 400000) (dsimp := false) only [ha, axs, AThen, ABlock, dstsOk, AStep, callsF, AWant, aop, AS.ev, AS.put, upd, AS.bound, abin, aint, aload, astore, cellsAt, AV.cells, alen, elems, AV.int?, FPost, aresL, ares1, pack, afill, splice, Value.oneCell', Nat.reduceLT, Nat.reduceLeDiff, Nat.reduceEqDiff, Nat.reduceAdd, Nat.reduceMul, Nat.reduceSub, Nat.reduceBEq, Int.reduceLE, Int.reduceLT, Int.reduceToNat, Int.reduceNeg, Int.reduceEq, axt, ftK, ft3, pickP, AScope, AAll, pickQ, ftQ, inHeap, tys]
  exact ⟨_, rfl, rfl⟩
/-- The objects that a search leaves behind: a copy of each slot that it looked at. -/
def fdH (H : AH) (n : Nat) (T : Tb) (a : Nat) : Nat → AH
  | 0 => H
  | j + 1 => upd (fdH H n T a j) (n + j) (some (.obj 130 3 [(sl T (adv T.length a j)).cells] false))
theorem fdH_old {H : AH} {n : Nat} {T : Tb} {a : Nat} : ∀ (j id : Nat), id < n → fdH H n T a j id = H id
  | 0, id, _ => rfl
  | j + 1, id, h => by
    unfold fdH
    rw [upd_ne _ _ (by omega), fdH_old j id h]
theorem cFind {H : AH} {n a s : Nat} {T : Tb} {m : Int} (h : HtH H n a s T m) (hp : Pw T.length) {k : Int} (hk : Key k) {q : Nat} (hq : IsFind T.length (hm T.length) T k q) :
    HCalls Try.prog 80 [.ptr a 2 0 0, .sc (.int .u64 k)] H n fun r H' n' => r = .sc (.int .i64 q) ∧ H' = fdH H n T (hm T.length k) (D T.length (hm T.length k) q + 1) ∧ n' = n + (D T.length (hm T.length k) q + 1) := by
  have ha := h.ha
  have hs := h.hs
  have hl := hp.le
  have hh : hm T.length k < T.length := hm_lt (by omega) k
  have e := hm_home hp hk
  have hD := D_lt hh hq.lt
  refine HCalls.walk Try.func80 rfl rfl Try.ntmps80 Try.results80 (by simp) ?_; simp (maxSteps := 400000) (dsimp := false) only [ha, axs, AThen, ABlock, dstsOk, AStep, callsF, AWant, aop, AS.ev, AS.put, upd, AS.bound, abin, aint, aload, astore, cellsAt, AV.cells, alen, elems, AV.int?, FPost, aresL, ares1, pack, afill, splice, Value.oneCell', Nat.reduceLT, Nat.reduceLeDiff, Nat.reduceEqDiff, Nat.reduceAdd, Nat.reduceMul, Nat.reduceSub, Nat.reduceBEq, Int.reduceLE, Int.reduceLT, Int.reduceToNat, Int.reduceNeg, Int.reduceEq, axt, ftK, ft3, pickP, AScope, AAll, pickQ, ftQ, inHeap, tys]
  refine ACallK.flat rfl (f13 _ _) (by simp only [SeesL, e, axs, axt, AS.ev, AS.put, upd, inHeap, Nat.reduceLT, Nat.reduceEqDiff, Nat.reduceAdd, Nat.reduceBEq]; repeat' (first | exact True.intro | exact Sees.sc | exact Sees.none | ((with_reducible refine Sees.same ?_) <;> simp [noIds, noIdsL, noIdsE, noIdsE_U, noIdsE_UU] <;> fail) | (refine Live.sees ?_ ?_ <;> first | assumption | (simp [noIdsE_U, noIdsE_UU] <;> fail)) | (refine Sees.obj ?_ ?_ ?_ <;> first | exact ⟨_, _, by assumption, rfl⟩ | (simp [U_len, UU_len] <;> fail) | (simp [noIdsE_U, noIdsE_UU] <;> fail) | (simp [U, UU, upd] <;> fail) | (simp [U, UU, upd, neS, *] <;> fail)) | (refine Sees.of_seen 3 ?_ <;> simp [seen, upd, noIdsE, noIdsL, noIds, U, UU, Nat.add_assoc] <;> fail) | refine Sees.agg ?_ | refine And.intro ?_ ?_ | simp only [SeesL])) (by simp [flatV, flatL]) ?_; simp (maxSteps := 400000) (dsimp := false) only [e, axs, AThen, ABlock, dstsOk, AStep, callsF, AWant, aop, AS.ev, AS.put, upd, AS.bound, abin, aint, aload, astore, cellsAt, AV.cells, alen, elems, AV.int?, FPost, aresL, ares1, pack, afill, splice, Value.oneCell', Nat.reduceLT, Nat.reduceLeDiff, Nat.reduceEqDiff, Nat.reduceAdd, Nat.reduceMul, Nat.reduceSub, Nat.reduceBEq, Int.reduceLE, Int.reduceLT, Int.reduceToNat, Int.reduceNeg, Int.reduceEq, axt, ftK, ft3, pickP, AScope, AAll, pickQ, ftQ, inHeap, tys]
  refine ALoop.upto (D T.length (hm T.length k) q) (fun p st => st.t 0 = .ptr a 2 0 0 ∧ st.t 1 = .sc (.int .u64 k) ∧ st.t 5 = .sc (.int .i64 (adv T.length (hm T.length k) p)) ∧ st.H = fdH H n T (hm T.length k) p ∧ st.n = n + p) ⟨rfl, rfl, by rw [adv_zero hh]; rfl, rfl, rfl⟩ ?_
  rintro p st hp' hb ⟨t0, t1, t5, eH, en⟩
  have hat : adv T.length (hm T.length k) p < T.length := adv_lt hh (by omega)
  have ha' : st.H a = some (.obj 106 2 [[.sl s 3 0 T.length, .sc (.int .i64 m)]] false) := by rw [eH, fdH_old _ _ h.la]; exact ha
  have hs' : st.H s = some (.obj 130 3 (TL T) false) := by rw [eH, fdH_old _ _ h.ls]; exact hs
  have ne1 : ¬ a = st.n := by have := h.la; omega
  have ne2 : ¬ s = st.n := by have := h.ls; omega
  have hend : fdH H n T (hm T.length k) (p + 1) = upd st.H st.n (some (.obj 130 3 [(sl T (adv T.length (hm T.length k) p)).cells] false)) := by rw [eH, en]; rfl
  have hnx : p < D T.length (hm T.length k) q → adv T.length (hm T.length k) (p + 1) = adv T.length (adv T.length (hm T.length k) p) 1 := fun hx => adv_succ hh (by omega)
  have hmiss : p < D T.length (hm T.length k) q → (sl T (adv T.length (hm T.length k) p)).full = true ∧ (sl T (adv T.length (hm T.length k) p)).key ≠ k := fun hx => hq.miss _ hat (by rw [D_adv hh (by omega)]; exact hx)
  have hlast : ¬ p < D T.length (hm T.length k) q → adv T.length (hm T.length k) p = q := fun hx => by rw [show p = D T.length (hm T.length k) q by omega, adv_D hh hq.lt]
  generalize adv T.length (hm T.length k) p = r at *
  have hg := TL_get hat
  have r0 : (0 : Int) ≤ r := by omega
  have r1 : (r : Int) < T.length := by omega
  have hnew : HtH (upd st.H st.n (some (.obj 130 3 [(sl T r).cells] false))) (st.n + 1) a s T m := HtH.new ⟨ha', hs', by have := h.la; omega, by have := h.ls; omega⟩
  by_cases hx : p < D T.length (hm T.length k) q
  · obtain ⟨m1, m2⟩ := hmiss hx
    have hc : (sl T r).cells = [.sc (.int .u64 (sl T r).key), .sc (.int .i32 (sl T r).n), .sc (.bool true)] := by rw [Sl3.cells, m1]
    rw [hc] at hnew hend
    simp (maxSteps := 400000) (dsimp := false) only [t0, t1, t5, ha', hs', hg, hat, ne1, ne2, r0, r1, upd_upd, m1, m2, axs, AThen, ABlock, dstsOk, AStep, callsF, AWant, aop, AS.ev, AS.put, upd, AS.bound, abin, aint, aload, astore, cellsAt, AV.cells, alen, elems, AV.int?, FPost, aresL, ares1, pack, afill, splice, Value.oneCell', Nat.reduceLT, Nat.reduceLeDiff, Nat.reduceEqDiff, Nat.reduceAdd, Nat.reduceMul, Nat.reduceSub, Nat.reduceBEq, Int.reduceLE, Int.reduceLT, Int.reduceToNat, Int.reduceNeg, Int.reduceEq, axt, ftK, ft3, pickP, AScope, AAll, pickQ, ftQ, inHeap, tys]
    refine ACallK.heap _ rfl (cNext hnew hp hat) ?_; rintro r' H' n' ⟨rfl, eH, en⟩; obtain rfl := eH.symm; obtain rfl := en.symm; clear eH en; simp (maxSteps := 400000) (dsimp := false) only [axs, AThen, ABlock, dstsOk, AStep, callsF, AWant, aop, AS.ev, AS.put, upd, AS.bound, abin, aint, aload, astore, cellsAt, AV.cells, alen, elems, AV.int?, FPost, aresL, ares1, pack, afill, splice, Value.oneCell', Nat.reduceLT, Nat.reduceLeDiff, Nat.reduceEqDiff, Nat.reduceAdd, Nat.reduceMul, Nat.reduceSub, Nat.reduceBEq, Int.reduceLE, Int.reduceLT, Int.reduceToNat, Int.reduceNeg, Int.reduceEq, axt, ftK, ft3, pickP, AScope, AAll, pickQ, ftQ, inHeap, tys]
    refine ⟨hx, ?_⟩
    rw [hnx hx, hend, en]
    exact ⟨t0, t1, rfl, rfl, by omega⟩
  · have hrq := hlast hx
    have hd : p = D T.length (hm T.length k) q := by omega
    subst hrq
    cases hf : (sl T r).full with
    | false =>
      have hc : (sl T r).cells = [.sc (.int .u64 (sl T r).key), .sc (.int .i32 (sl T r).n), .sc (.bool false)] := by rw [Sl3.cells, hf]
      rw [hc] at hend
      simp (maxSteps := 400000) (dsimp := false) only [t0, t1, t5, ha', hs', hg, hat, ne1, ne2, r0, r1, upd_upd, hf, axs, AThen, ABlock, dstsOk, AStep, callsF, AWant, aop, AS.ev, AS.put, upd, AS.bound, abin, aint, aload, astore, cellsAt, AV.cells, alen, elems, AV.int?, FPost, aresL, ares1, pack, afill, splice, Value.oneCell', Nat.reduceLT, Nat.reduceLeDiff, Nat.reduceEqDiff, Nat.reduceAdd, Nat.reduceMul, Nat.reduceSub, Nat.reduceBEq, Int.reduceLE, Int.reduceLT, Int.reduceToNat, Int.reduceNeg, Int.reduceEq, axt, ftK, ft3, pickP, AScope, AAll, pickQ, ftQ, inHeap, tys]
      exact ⟨_, rfl, rfl, by rw [← hd, hend], by omega⟩
    | true =>
      have hkk : (sl T r).key = k := by
        rcases hq.hit with e2 | e2
        · rw [hf] at e2; cases e2
        · exact e2
      have hkk := eq_true hkk
      simp (maxSteps := 400000) (dsimp := false) only [t0, t1, t5, ha', hs', hg, hat, ne1, ne2, r0, r1, upd_upd, hf, hkk, axs, AThen, ABlock, dstsOk, AStep, callsF, AWant, aop, AS.ev, AS.put, upd, AS.bound, abin, aint, aload, astore, cellsAt, AV.cells, alen, elems, AV.int?, FPost, aresL, ares1, pack, afill, splice, Value.oneCell', Nat.reduceLT, Nat.reduceLeDiff, Nat.reduceEqDiff, Nat.reduceAdd, Nat.reduceMul, Nat.reduceSub, Nat.reduceBEq, Int.reduceLE, Int.reduceLT, Int.reduceToNat, Int.reduceNeg, Int.reduceEq, axt, ftK, ft3, pickP, AScope, AAll, pickQ, ftQ, inHeap, tys]
      have hc : (sl T r).cells = [.sc (.int .u64 (sl T r).key), .sc (.int .i32 (sl T r).n), .sc (.bool true)] := by rw [Sl3.cells, hf]
      rw [hc] at hend
      exact ⟨_, rfl, rfl, by rw [← hd, hend], by omega⟩
end Go.Al
