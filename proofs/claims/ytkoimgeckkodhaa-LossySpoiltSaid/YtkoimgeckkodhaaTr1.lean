/- A small queue, a main one and ghosts: the reference's small functions. Conditions: the rows are short. -/
import Derived.Test.YtkoimgeckkodhaaTp1
set_option linter.unusedVariables false
set_option linter.unusedSimpArgs false
set_option maxRecDepth 20000
set_option maxHeartbeats 3200000
-- axs, axw, aresL, afill, Value.oneCell', Nat.reduceLT, Nat.reduceLeDiff, Nat.reduceEqDiff, Nat.reduceAdd, Nat.reduceMul, Nat.reduceSub, Nat.reduceBEq, Int.reduceLE, Int.reduceLT, Int.reduceToNat, Int.reduceNeg, Int.reduceEq, axt, ftK, ft3, AAll, ftQ, T3, tys: T3
-- NOIDS: noIdsE_I3
-- LENS: I3_len
namespace Go.Al
open Go.Proofs
def I3 (l : List (Int × Int)) : List (List AV) := l.map fun p => [.sc (.int .u64 p.1), .sc (.int .i64 p.2)]
theorem I3_len (l : List (Int × Int)) : (I3 l).length = l.length := by simp [I3]
theorem I3_get {l : List (Int × Int)} {p : Nat} {x : Int × Int} (h : l[p]? = some x) : (I3 l)[p]? = some [.sc (.int .u64 x.1), .sc (.int .i64 x.2)] := by simp [I3, h]
theorem I3_take (l : List (Int × Int)) (k : Nat) : (I3 l).take k = I3 (l.take k) := by simp [I3]
theorem I3_append (a b : List (Int × Int)) : I3 (a ++ b) = I3 a ++ I3 b := by simp [I3]
theorem I3_snoc (a : List (Int × Int)) (x : Int × Int) : I3 (a ++ [x]) = I3 a ++ [[.sc (.int .u64 x.1), .sc (.int .i64 x.2)]] := by simp [I3]
theorem noIdsE_I3 (l : List (Int × Int)) : noIdsE (I3 l) = true := noIdsE_map _ (fun x => by simp [noIdsL, noIds]) l
theorem I3_nil {l : List (Int × Int)} (h : I3 l = []) : l = [] := by simpa [I3] using h
/-- A state, as a value. -/
def T3 (s : S3) : AV := .agg [.sc (.int .i64 s.C), .lst 2 (I3 s.S), .lst 2 (I3 s.M), .lst 1 (U s.G)]
theorem see2af70 {p : Prop} (h : p := by repeat' (first | exact True.intro | exact Sees.sc | exact Sees.none | ((with_reducible refine Sees.same ?_) <;> simp [noIds, noIdsL, noIdsE, noIdsE_U, noIdsE_UU, noIdsE_I3] <;> fail) | (refine Live.sees ?_ ?_ <;> first | assumption | (simp [noIdsE_U, noIdsE_UU, noIdsE_I3] <;> fail)) | (refine Sees.obj ?_ ?_ ?_ <;> first | exact ⟨_, _, by assumption, rfl⟩ | (simp [U_len, UU_len, I3_len] <;> fail) | (simp [noIdsE_U, noIdsE_UU, noIdsE_I3] <;> fail) | (simp [U, UU, upd] <;> fail) | (simp [U, UU, upd, neS, *] <;> fail)) | (refine Sees.of_seen 3 ?_ <;> simp [seen, upd, noIdsE, noIdsL, noIds, U, UU, Nat.add_assoc] <;> fail) | refine Sees.agg ?_ | refine And.intro ?_ ?_ | simp only [SeesL])) : p := h
theorem see2af71 {p : Prop} (h : p := by repeat' (first | exact True.intro | exact Sees.sc | exact Sees.none | ((with_reducible refine Sees.same ?_) <;> simp [noIds, noIdsL, noIdsE, noIdsE_U, noIdsE_UU, noIdsE_I3] <;> fail) | (refine Live.sees ?_ ?_ <;> first | assumption | (simp [noIdsE_U, noIdsE_UU, noIdsE_I3] <;> fail)) | (refine Sees.obj ?_ ?_ ?_ <;> first | exact ⟨_, _, by assumption, rfl⟩ | (simp [U_len, UU_len, I3_len] <;> fail) | (simp [noIdsE_U, noIdsE_UU, noIdsE_I3] <;> fail) | (simp [U, UU, upd, neS] <;> fail) | (simp [U, UU, upd, neS, *] <;> fail)) | refine Sees.agg ?_ | refine Sees.tup ?_ | refine And.intro ?_ ?_ | simp only [SeesL])) : p := h
theorem r3New (c : Int) : PCalls Try.prog 28 [.sc (.int .i64 c)] (T3 ⟨capOf c, [], [], []⟩) := by
  refine PCalls.intro2 Try.func28 rfl rfl Try.ntmps28 Try.results28 (by simp) fun n => ?_; simp (maxSteps := 400000) (dsimp := false) only [axs, axw, aresL, afill, Value.oneCell', Nat.reduceLT, Nat.reduceLeDiff, Nat.reduceEqDiff, Nat.reduceAdd, Nat.reduceMul, Nat.reduceSub, Nat.reduceBEq, Int.reduceLE, Int.reduceLT, Int.reduceToNat, Int.reduceNeg, Int.reduceEq, axt, ftK, ft3, AAll, ftQ, T3, tys]
  refine ACallK.strict rfl (rCap c) (by simp only [SeesL, axs, axt, AS.ev, AS.put, upd, inHeap, Nat.reduceLT, Nat.reduceEqDiff, Nat.reduceAdd, Nat.reduceBEq, T3]; exact see2af70) ?_; simp (maxSteps := 400000) (dsimp := false) only [axs, axw, aresL, afill, Value.oneCell', Nat.reduceLT, Nat.reduceLeDiff, Nat.reduceEqDiff, Nat.reduceAdd, Nat.reduceMul, Nat.reduceSub, Nat.reduceBEq, Int.reduceLE, Int.reduceLT, Int.reduceToNat, Int.reduceNeg, Int.reduceEq, axt, ftK, ft3, AAll, ftQ, T3, tys]
  refine ⟨_, rfl, ?_⟩; simp (maxSteps := 400000) (dsimp := false) only [SeesL, axs, axw, aresL, afill, Value.oneCell', Nat.reduceLT, Nat.reduceLeDiff, Nat.reduceEqDiff, Nat.reduceAdd, Nat.reduceMul, Nat.reduceSub, Nat.reduceBEq, Int.reduceLE, Int.reduceLT, Int.reduceToNat, Int.reduceNeg, Int.reduceEq, axt, ftK, ft3, AAll, ftQ, T3, tys] <;> exact see2af71
theorem r3Target (c : Int) (c0 : 1 ≤ c) (c1 : c ≤ 1048576) : PCalls Try.prog 105 [.sc (.int .i64 c)] (.sc (.int .i64 (tgt c))) := by
  unfold tgt
  by_cases h : c < 10
  · rw [if_pos h]
    refine PCalls.intro2 Try.func105 rfl rfl Try.ntmps105 Try.results105 (by simp) fun n => ?_; simp (maxSteps := 400000) (dsimp := false) only [h, axs, axw, aresL, afill, Value.oneCell', Nat.reduceLT, Nat.reduceLeDiff, Nat.reduceEqDiff, Nat.reduceAdd, Nat.reduceMul, Nat.reduceSub, Nat.reduceBEq, Int.reduceLE, Int.reduceLT, Int.reduceToNat, Int.reduceNeg, Int.reduceEq, axt, ftK, ft3, AAll, ftQ, T3, tys]
    exact ⟨_, rfl, Sees.sc⟩
  · rw [if_neg h]
    have ht : 0 ≤ c.tdiv 10 ∧ c.tdiv 10 ≤ c := ⟨Int.tdiv_nonneg (by omega) (by omega), Int.tdiv_le_self _ (by omega)⟩
    have w : IntKind.i64.wrap (c.tdiv 10) = c.tdiv 10 := wrap_in ht.1 (by omega)
    refine PCalls.intro2 Try.func105 rfl rfl Try.ntmps105 Try.results105 (by simp) fun n => ?_; simp (maxSteps := 400000) (dsimp := false) only [h, w, axs, axw, aresL, afill, Value.oneCell', Nat.reduceLT, Nat.reduceLeDiff, Nat.reduceEqDiff, Nat.reduceAdd, Nat.reduceMul, Nat.reduceSub, Nat.reduceBEq, Int.reduceLE, Int.reduceLT, Int.reduceToNat, Int.reduceNeg, Int.reduceEq, axt, ftK, ft3, AAll, ftQ, T3, tys]
    exact ⟨_, rfl, Sees.sc⟩
/-- What is in the heap behind the keys of so many items. -/
def kB (l : List (Int × Int)) (p : Nat) : Option AO := some (.obj 54 1 [[.sc (.int .u64 (l.getD p (0, 0)).1)]] false)
def kR (l : List (Int × Int)) (p : Nat) : Option AO := some (.obj 54 1 (U (keyP (l.take p))) false)
def kH (H : AH) (n : Nat) (l : List (Int × Int)) : Nat → AH
  | 0 => H
  | 1 => upd (upd H n (kB l 0)) (n + 1) (kR l 1)
  | q + 2 => upd (upd (upd (kH H n l (q + 1)) (n + 2 * (q + 1)) (kB l (q + 1))) (n + 2 * q + 1) none) (n + 2 * (q + 1) + 1) (kR l (q + 2))
theorem kH_low (H : AH) (n : Nat) (l : List (Int × Int)) : ∀ p id, id < n → kH H n l p id = H id
  | 0, _, _ => rfl
  | 1, id, h => by
    unfold kH
    rw [upd_ne _ _ (by omega), upd_ne _ _ (by omega)]
  | q + 2, id, h => by
    unfold kH
    rw [upd_ne _ _ (by omega), upd_ne _ _ (by omega), upd_ne _ _ (by omega)]
    exact kH_low H n l (q + 1) id h
theorem kH_row (H : AH) (n : Nat) (l : List (Int × Int)) : ∀ p, kH H n l (p + 1) (n + 2 * p + 1) = kR l (p + 1)
  | 0 => by unfold kH; exact upd_same _ _ _
  | p + 1 => by unfold kH; exact upd_same _ _ _
def kV (n : Nat) : Nat → AV
  | 0 => .sc (.slice none 0 0)
  | p + 1 => .sl (n + 2 * p + 1) 1 0 (p + 1)
theorem c3keys (l : List (Int × Int)) (hl : l.length ≤ 100000) (H : AH) (n : Nat) : HCalls Try.prog 73 [.lst 2 (I3 l)] H n fun r H' n' => r = kV n l.length ∧ H' = kH H n l l.length ∧ n' = n + 2 * l.length := by
  refine HCalls.walk Try.func73 rfl rfl Try.ntmps73 Try.results73 (by simp) ?_; simp (maxSteps := 400000) (dsimp := false) only [axs, axw, aresL, afill, Value.oneCell', Nat.reduceLT, Nat.reduceLeDiff, Nat.reduceEqDiff, Nat.reduceAdd, Nat.reduceMul, Nat.reduceSub, Nat.reduceBEq, Int.reduceLE, Int.reduceLT, Int.reduceToNat, Int.reduceNeg, Int.reduceEq, axt, ftK, ft3, AAll, ftQ, T3, tys]
  refine ALoop.upto l.length (fun p s => s.t 0 = .lst 2 (I3 l) ∧ s.t 3 = kV n p ∧ s.t 4 = .sc (.int .i64 p) ∧ s.H = kH H n l p ∧ s.n = n + 2 * p) ⟨rfl, rfl, rfl, rfl, rfl⟩ ?_
  rintro p ⟨t, H1, n1⟩ hp hb ⟨e0, e3, e4, eH, en⟩
  simp only at e0 e3 e4 eH en
  subst eH
  subst en
  rcases Nat.lt_or_ge p l.length with hlt | hge
  · obtain ⟨x, hx, hp0, hpl, hw, hT, hD⟩ := idx hlt (by omega)
    have hg := I3_get hx
    have hgd : l.getD p (0, 0) = x := by rw [List.getD_eq_getElem?_getD, hx]; rfl
    have hk : U (keyP (l.take (p + 1))) = U (keyP (l.take p)) ++ [[.sc (.int .u64 x.1)]] := by rw [hT]; simp [keyP, U]
    have hlp : (keyP (l.take p)).length = p := by rw [keyP_len, List.length_take]; omega
    rcases p.eq_zero_or_pos with h0 | h0
    · have e3' : t 3 = .sc (.slice none 0 0) := by rw [e3, h0]; rfl
      clear e3
      simp (maxSteps := 400000) (dsimp := false) only [e0, e3', e4, hp0, hpl, hg, I3_len, hw, axs, axw, aresL, afill, Value.oneCell', Nat.reduceLT, Nat.reduceLeDiff, Nat.reduceEqDiff, Nat.reduceAdd, Nat.reduceMul, Nat.reduceSub, Nat.reduceBEq, Int.reduceLE, Int.reduceLT, Int.reduceToNat, Int.reduceNeg, Int.reduceEq, axt, ftK, ft3, AAll, ftQ, T3, tys]
      subst h0
      refine ⟨hlt, rfl, ?_, by omega⟩
      show _ = upd (upd H n (kB l 0)) (n + 1) (kR l 1)
      unfold kB kR
      rw [hgd, hk]
      rfl
    · obtain ⟨q, hq⟩ : ∃ q, p = q + 1 := ⟨p - 1, by omega⟩
      have hr : kH H n l p (n + 2 * q + 1) = kR l p := by rw [hq]; exact kH_row H n l q
      unfold kR at hr
      have e3' : t 3 = .sl (n + 2 * q + 1) 1 0 p := by rw [e3, hq]; rfl
      clear e3
      have b1 : (p + 1) * 8 ≤ 140737488355328 := by omega
      have b2 : p + 1 ≤ 1099511627776 := by omega
      have ne1 : ¬ n + 2 * q + 1 = n + 2 * p := by omega
      simp (maxSteps := 400000) (dsimp := false) only [e0, e3', e4, hp0, hpl, hg, I3_len, hw, hr, ne1, b1, b2, U_len, hlp, axs, axw, aresL, afill, Value.oneCell', Nat.reduceLT, Nat.reduceLeDiff, Nat.reduceEqDiff, Nat.reduceAdd, Nat.reduceMul, Nat.reduceSub, Nat.reduceBEq, Int.reduceLE, Int.reduceLT, Int.reduceToNat, Int.reduceNeg, Int.reduceEq, axt, ftK, ft3, AAll, ftQ, T3, tys]
      subst hq
      refine ⟨hlt, rfl, ?_, by omega⟩
      show _ = upd (upd (upd (kH H n l (q + 1)) (n + 2 * (q + 1)) (kB l (q + 1))) (n + 2 * q + 1) none) (n + 2 * (q + 1) + 1) (kR l (q + 2))
      unfold kB kR
      rw [hgd, hk]
  · have hpl : ¬ (p : Int) < l.length := by omega
    obtain rfl : p = l.length := by omega
    simp (maxSteps := 400000) (dsimp := false) only [e0, e3, e4, hpl, I3_len, axs, axw, aresL, afill, Value.oneCell', Nat.reduceLT, Nat.reduceLeDiff, Nat.reduceEqDiff, Nat.reduceAdd, Nat.reduceMul, Nat.reduceSub, Nat.reduceBEq, Int.reduceLE, Int.reduceLT, Int.reduceToNat, Int.reduceNeg, Int.reduceEq, axt, ftK, ft3, AAll, ftQ, T3, tys]
    exact ⟨_, rfl, rfl⟩
theorem r3keys (l : List (Int × Int)) (hl : l.length ≤ 100000) : PCalls Try.prog 73 [.lst 2 (I3 l)] (.lst 1 (U (keyP l))) := by
  refine PCalls.intro2 Try.func73 rfl rfl Try.ntmps73 Try.results73 (by simp) fun n => ?_; simp (maxSteps := 400000) (dsimp := false) only [axs, axw, aresL, afill, Value.oneCell', Nat.reduceLT, Nat.reduceLeDiff, Nat.reduceEqDiff, Nat.reduceAdd, Nat.reduceMul, Nat.reduceSub, Nat.reduceBEq, Int.reduceLE, Int.reduceLT, Int.reduceToNat, Int.reduceNeg, Int.reduceEq, axt, ftK, ft3, AAll, ftQ, T3, tys]
  refine ALoop.upto l.length (fun p s => s.t 0 = .lst 2 (I3 l) ∧ s.t 4 = .sc (.int .i64 p) ∧ Live 54 1 s.H (U (keyP (l.take p))) (s.t 3)) ⟨rfl, rfl, Live.nil⟩ ?_
  rintro p s hp hb ⟨e0, e4, hv⟩
  have hlp : (keyP (l.take p)).length = p := by rw [keyP_len, List.length_take]; omega
  rcases Nat.lt_or_ge p l.length with hlt | hge
  · obtain ⟨x, hx, hp0, hpl, hw, hT, hD⟩ := idx hlt (by omega)
    have hg := I3_get hx
    have hk : U (keyP (l.take (p + 1))) = U (keyP (l.take p)) ++ [[.sc (.int .u64 x.1)]] := by rw [hT]; simp [keyP, U]
    rw [hk]
    generalize keyP (l.take p) = q at *
    have b1 : (q.length + 1) * 8 ≤ 140737488355328 := by omega
    have b2 : q.length + 1 ≤ 1099511627776 := by omega
    rcases hv.cases hb with ⟨e1, e2⟩ | ⟨id, i1, i2, e1, e2⟩
    · obtain rfl : q = [] := by simpa [U] using e1
      simp (maxSteps := 400000) (dsimp := false) only [e0, e4, hp0, hpl, hg, hw, e2, I3_len, axs, axw, aresL, afill, Value.oneCell', Nat.reduceLT, Nat.reduceLeDiff, Nat.reduceEqDiff, Nat.reduceAdd, Nat.reduceMul, Nat.reduceSub, Nat.reduceBEq, Int.reduceLE, Int.reduceLT, Int.reduceToNat, Int.reduceNeg, Int.reduceEq, axt, ftK, ft3, AAll, ftQ, T3, tys]
      exact ⟨hlt, Live.mk (upd_same _ _ _) rfl⟩
    · rw [U_len] at e1
      simp (maxSteps := 400000) (dsimp := false) only [e0, e4, hp0, hpl, hg, hw, e1, e2, i2, I3_len, U_len, b1, b2, axs, axw, aresL, afill, Value.oneCell', Nat.reduceLT, Nat.reduceLeDiff, Nat.reduceEqDiff, Nat.reduceAdd, Nat.reduceMul, Nat.reduceSub, Nat.reduceBEq, Int.reduceLE, Int.reduceLT, Int.reduceToNat, Int.reduceNeg, Int.reduceEq, axt, ftK, ft3, AAll, ftQ, T3, tys]
      exact ⟨hlt, Live.mk (upd_same _ _ _) (by simp [U_len])⟩
  · have hpl : ¬ (p : Int) < l.length := by omega
    rw [List.take_of_length_le hge] at hv
    simp (maxSteps := 400000) (dsimp := false) only [e0, e4, hpl, I3_len, axs, axw, aresL, afill, Value.oneCell', Nat.reduceLT, Nat.reduceLeDiff, Nat.reduceEqDiff, Nat.reduceAdd, Nat.reduceMul, Nat.reduceSub, Nat.reduceBEq, Int.reduceLE, Int.reduceLT, Int.reduceToNat, Int.reduceNeg, Int.reduceEq, axt, ftK, ft3, AAll, ftQ, T3, tys]
    exact ⟨_, rfl, hv.sees (noIdsE_U _)⟩
end Go.Al
