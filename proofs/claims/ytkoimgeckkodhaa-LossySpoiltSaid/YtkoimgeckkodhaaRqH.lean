/- Low inter-reference recency: the reference's small functions. Conditions: the rows are short. Low inter-reference recency: the reference cuts, sets, prunes. Conditions: the rows are short. Low inter-reference recency: the reference stacks, lets a key be last, forgets, tells its keys. Conditions: the rows are short. Low inter-reference recency: the reference evicts, and tells its keys. Conditions: the rows are short. Low inter-reference recency, plainly: the keys of a stack and a queue, and what stays. Conditions: none. Low inter-reference recency, plainly: what stays where it is cooled, shrunk, forgotten. Conditions: none. -/
import Derived.Test.YtkoimgeckkodhaaRqG
section
set_option linter.unusedVariables false
set_option linter.unusedSimpArgs false
set_option maxRecDepth 20000
set_option maxHeartbeats 3200000
-- axs, axw, aresL, afill, Value.oneCell', Nat.reduceLT, Nat.reduceLeDiff, Nat.reduceEqDiff, Nat.reduceAdd, Nat.reduceMul, Nat.reduceSub, Nat.reduceBEq, Int.reduceLE, Int.reduceLT, Int.reduceToNat, Int.reduceNeg, Int.reduceEq, axt, ftK, ft3, AAll, ftQ, SL, tys: SL
-- NOIDS: noIdsE_IT
-- LENS: IT_len
namespace Go.Al.K12
open Go.Proofs
theorem upTo_snoc (kd : Int) (A : List (Int × Int)) (x : Int × Int) : upTo kd (A ++ [x]) = if x.2 = kd then A.length + 1 else upTo kd A := by
  by_cases h : x.2 = kd
  · rw [if_pos h, upTo_at (B := []) h (by intro y hy; cases hy)]
  · rw [if_neg h]
    rcases upTo_spec (k := kd) A with ⟨h1, h2⟩ | ⟨B, y, D, h1, h2, h3, h4⟩
    · rw [h1, upTo_none]
      intro y hy
      rcases List.mem_append.1 hy with hy | hy
      · exact h2 y hy
      · rw [List.mem_singleton.1 hy]; exact h
    · rw [h2, h1, List.append_assoc, List.cons_append, upTo_at h3]
      intro z hz
      rcases List.mem_append.1 hz with hz | hz
      · exact h4 z hz
      · rw [List.mem_singleton.1 hz]; exact h
theorem see43f00 {p : Prop} (h : p := by repeat' (first | exact True.intro | exact Sees.sc | exact Sees.none | ((with_reducible refine Sees.same ?_) <;> simp [noIds, noIdsL, noIdsE, noIdsE_U, noIdsE_UU, noIdsE_IT] <;> fail) | (refine Live.sees ?_ ?_ <;> first | assumption | (simp [noIdsE_U, noIdsE_UU, noIdsE_IT] <;> fail)) | (refine Sees.obj ?_ ?_ ?_ <;> first | exact ⟨_, _, by assumption, rfl⟩ | (simp [U_len, UU_len, IT_len] <;> fail) | (simp [noIdsE_U, noIdsE_UU, noIdsE_IT] <;> fail) | (simp [U, UU, upd] <;> fail) | (simp [U, UU, upd, neS, *] <;> fail)) | (refine Sees.of_seen 3 ?_ <;> simp [seen, upd, noIdsE, noIdsL, noIds, U, UU, Nat.add_assoc] <;> fail) | refine Sees.agg ?_ | refine And.intro ?_ ?_ | simp only [SeesL])) : p := h
theorem see43f01 {p : Prop} (h : p := by repeat' (first | exact True.intro | exact Sees.sc | exact Sees.none | ((with_reducible refine Sees.same ?_) <;> simp [noIds, noIdsL, noIdsE, noIdsE_U, noIdsE_UU, noIdsE_IT] <;> fail) | (refine Live.sees ?_ ?_ <;> first | assumption | (simp [noIdsE_U, noIdsE_UU, noIdsE_IT] <;> fail)) | (refine Sees.obj ?_ ?_ ?_ <;> first | exact ⟨_, _, by assumption, rfl⟩ | (simp [U_len, UU_len, IT_len] <;> fail) | (simp [noIdsE_U, noIdsE_UU, noIdsE_IT] <;> fail) | (simp [U, UU, upd, neS] <;> fail) | (simp [U, UU, upd, neS, *] <;> fail)) | refine Sees.agg ?_ | refine Sees.tup ?_ | refine And.intro ?_ ?_ | simp only [SeesL])) : p := h
theorem rLNew (c : Int) : PCalls Try.prog 30 [.sc (.int .i64 c)] (SL ⟨capOf c, [], []⟩) := by
  refine PCalls.intro2 Try.func30 rfl rfl Try.ntmps30 Try.results30 (by simp) fun n => ?_; simp (maxSteps := 400000) (dsimp := false) only [axs, axw, aresL, afill, Value.oneCell', Nat.reduceLT, Nat.reduceLeDiff, Nat.reduceEqDiff, Nat.reduceAdd, Nat.reduceMul, Nat.reduceSub, Nat.reduceBEq, Int.reduceLE, Int.reduceLT, Int.reduceToNat, Int.reduceNeg, Int.reduceEq, axt, ftK, ft3, AAll, ftQ, SL, tys]
  refine ACallK.strict rfl (rCap c) (by simp only [SeesL, axs, axt, AS.ev, AS.put, upd, inHeap, Nat.reduceLT, Nat.reduceEqDiff, Nat.reduceAdd, Nat.reduceBEq, SL]; exact see43f00) ?_; simp (maxSteps := 400000) (dsimp := false) only [axs, axw, aresL, afill, Value.oneCell', Nat.reduceLT, Nat.reduceLeDiff, Nat.reduceEqDiff, Nat.reduceAdd, Nat.reduceMul, Nat.reduceSub, Nat.reduceBEq, Int.reduceLE, Int.reduceLT, Int.reduceToNat, Int.reduceNeg, Int.reduceEq, axt, ftK, ft3, AAll, ftQ, SL, tys]
  refine ⟨_, rfl, ?_⟩; simp (maxSteps := 400000) (dsimp := false) only [SeesL, axs, axw, aresL, afill, Value.oneCell', Nat.reduceLT, Nat.reduceLeDiff, Nat.reduceEqDiff, Nat.reduceAdd, Nat.reduceMul, Nat.reduceSub, Nat.reduceBEq, Int.reduceLE, Int.reduceLT, Int.reduceToNat, Int.reduceNeg, Int.reduceEq, axt, ftK, ft3, AAll, ftQ, SL, tys] <;> exact see43f01
theorem rMany (S : List (Int × Int)) (kd : Int) (hl : S.length ≤ 1000000) : PCalls Try.prog 97 [.lst 2 (IT S), .sc (.int .i64 kd)] (.sc (.int .i64 (many kd S))) := by
  refine PCalls.intro2 Try.func97 rfl rfl Try.ntmps97 Try.results97 (by simp) fun n => ?_; simp (maxSteps := 400000) (dsimp := false) only [axs, axw, aresL, afill, Value.oneCell', Nat.reduceLT, Nat.reduceLeDiff, Nat.reduceEqDiff, Nat.reduceAdd, Nat.reduceMul, Nat.reduceSub, Nat.reduceBEq, Int.reduceLE, Int.reduceLT, Int.reduceToNat, Int.reduceNeg, Int.reduceEq, axt, ftK, ft3, AAll, ftQ, SL, tys]
  refine ALoop.upto S.length (fun p s => s.t 0 = .lst 2 (IT S) ∧ s.t 1 = .sc (.int .i64 kd) ∧ s.t 5 = .sc (.int .i64 (many kd (S.take p))) ∧ s.t 6 = .sc (.int .i64 p)) ⟨rfl, rfl, rfl, rfl⟩ ?_
  rintro p s hp hb ⟨h0, h1, h5, h6⟩
  rcases Nat.lt_or_ge p S.length with hlt | hge
  · obtain ⟨x, hx, hp0, hpl, hw, hT, hD⟩ := idx hlt (by omega)
    have hg := IT_get hx
    have hm := many_le kd (S.take p)
    rw [List.length_take] at hm
    have hms : many kd (S.take (p + 1)) = many kd (S.take p) + (if x.2 = kd then 1 else 0) := by
      rw [hT, many_append, many_cons]
      rfl
    rw [hms]
    generalize many kd (S.take p) = q at *
    have hw2 : IntKind.i64.wrap ((q : Int) + 1) = ((q + 1 : Nat) : Int) := by rw [wrap_in (by omega) (by omega)]; rfl
    by_cases hk : x.2 = kd
    · rw [if_pos hk]
      simp (maxSteps := 400000) (dsimp := false) only [h0, h1, h5, h6, hp0, hpl, hg, IT_len, hk, hw, hw2, axs, axw, aresL, afill, Value.oneCell', Nat.reduceLT, Nat.reduceLeDiff, Nat.reduceEqDiff, Nat.reduceAdd, Nat.reduceMul, Nat.reduceSub, Nat.reduceBEq, Int.reduceLE, Int.reduceLT, Int.reduceToNat, Int.reduceNeg, Int.reduceEq, axt, ftK, ft3, AAll, ftQ, SL, tys]
      exact hlt
    · rw [if_neg hk]
      simp (maxSteps := 400000) (dsimp := false) only [h0, h1, h5, h6, hp0, hpl, hg, IT_len, hk, hw, hw2, axs, axw, aresL, afill, Value.oneCell', Nat.reduceLT, Nat.reduceLeDiff, Nat.reduceEqDiff, Nat.reduceAdd, Nat.reduceMul, Nat.reduceSub, Nat.reduceBEq, Int.reduceLE, Int.reduceLT, Int.reduceToNat, Int.reduceNeg, Int.reduceEq, axt, ftK, ft3, AAll, ftQ, SL, tys]
      exact hlt
  · have hpl : ¬ (p : Int) < S.length := by omega
    rw [List.take_of_length_le hge] at h5
    simp (maxSteps := 400000) (dsimp := false) only [h0, h1, h5, h6, hpl, IT_len, axs, axw, aresL, afill, Value.oneCell', Nat.reduceLT, Nat.reduceLeDiff, Nat.reduceEqDiff, Nat.reduceAdd, Nat.reduceMul, Nat.reduceSub, Nat.reduceBEq, Int.reduceLE, Int.reduceLT, Int.reduceToNat, Int.reduceNeg, Int.reduceEq, axt, ftK, ft3, AAll, ftQ, SL, tys]
    exact ⟨_, rfl, Sees.sc⟩
theorem rRoom (C : Int) (c0 : 1 ≤ C) (c1 : C ≤ 1048576) : PCalls Try.prog 98 [.sc (.int .i64 C)] (.sc (.int .i64 (roomOf C))) := by
  have ht : 0 ≤ C.tdiv 100 ∧ C.tdiv 100 ≤ C := ⟨Int.tdiv_nonneg (by omega) (by omega), Int.tdiv_le_self _ (by omega)⟩
  have hd : C.tdiv 100 = C / 100 := Int.tdiv_eq_ediv_of_nonneg (by omega)
  have w0 : IntKind.i64.wrap (C - 1) = C - 1 := IntWalk.i64_in _ ⟨by omega, by omega⟩
  have w1 : IntKind.i64.wrap (C.tdiv 100) = C.tdiv 100 := wrap_in ht.1 (by omega)
  have w2 : IntKind.i64.wrap (C - C.tdiv 100) = C - C.tdiv 100 := IntWalk.i64_in _ ⟨by omega, by omega⟩
  by_cases h : C < 200
  · have hR : roomOf C = C - 1 := by
      unfold roomOf
      split <;> omega
    rw [hR]
    refine PCalls.intro2 Try.func98 rfl rfl Try.ntmps98 Try.results98 (by simp) fun n => ?_; simp (maxSteps := 400000) (dsimp := false) only [h, w0, axs, axw, aresL, afill, Value.oneCell', Nat.reduceLT, Nat.reduceLeDiff, Nat.reduceEqDiff, Nat.reduceAdd, Nat.reduceMul, Nat.reduceSub, Nat.reduceBEq, Int.reduceLE, Int.reduceLT, Int.reduceToNat, Int.reduceNeg, Int.reduceEq, axt, ftK, ft3, AAll, ftQ, SL, tys]
    exact ⟨_, rfl, Sees.sc⟩
  · have hR : roomOf C = C - C.tdiv 100 := by
      unfold roomOf
      rw [if_neg (by omega)]
    rw [hR]
    refine PCalls.intro2 Try.func98 rfl rfl Try.ntmps98 Try.results98 (by simp) fun n => ?_; simp (maxSteps := 400000) (dsimp := false) only [h, w1, w2, axs, axw, aresL, afill, Value.oneCell', Nat.reduceLT, Nat.reduceLeDiff, Nat.reduceEqDiff, Nat.reduceAdd, Nat.reduceMul, Nat.reduceSub, Nat.reduceBEq, Int.reduceLE, Int.reduceLT, Int.reduceToNat, Int.reduceNeg, Int.reduceEq, axt, ftK, ft3, AAll, ftQ, SL, tys]
    exact ⟨_, rfl, Sees.sc⟩
theorem rPlace (S : List (Int × Int)) (k : Int) (hl : S.length ≤ 1000000) : PCalls Try.prog 77 [.lst 2 (IT S), .sc (.int .u64 k)] (.sc (.int .i64 (idxK S k))) := by
  refine PCalls.intro2 Try.func77 rfl rfl Try.ntmps77 Try.results77 (by simp) fun n => ?_; simp (maxSteps := 400000) (dsimp := false) only [axs, axw, aresL, afill, Value.oneCell', Nat.reduceLT, Nat.reduceLeDiff, Nat.reduceEqDiff, Nat.reduceAdd, Nat.reduceMul, Nat.reduceSub, Nat.reduceBEq, Int.reduceLE, Int.reduceLT, Int.reduceToNat, Int.reduceNeg, Int.reduceEq, axt, ftK, ft3, AAll, ftQ, SL, tys]
  refine ALoop.upto S.length (fun p s => s.t 0 = .lst 2 (IT S) ∧ s.t 1 = .sc (.int .u64 k) ∧ s.t 5 = .sc (.int .i64 p) ∧ ∀ (q : Nat) (y : Int × Int), q < p → S[q]? = some y → decide (y.1 = k) = false) ⟨rfl, rfl, rfl, fun q y h => (nomatch h)⟩ ?_
  rintro p s hp hb ⟨h0, h1, h5, hno⟩
  rcases Nat.lt_or_ge p S.length with hlt | hge
  · obtain ⟨x, hx, hp0, hpl, hw, hT, hD⟩ := idx hlt (by omega)
    have hg := IT_get hx
    by_cases hk : x.1 = k
    · have hi : idxK S k = p := idxT_hit hx (decide_eq_true hk) hno
      rw [hi]
      simp (maxSteps := 400000) (dsimp := false) only [h0, h1, h5, hp0, hpl, hg, IT_len, hk, hw, axs, axw, aresL, afill, Value.oneCell', Nat.reduceLT, Nat.reduceLeDiff, Nat.reduceEqDiff, Nat.reduceAdd, Nat.reduceMul, Nat.reduceSub, Nat.reduceBEq, Int.reduceLE, Int.reduceLT, Int.reduceToNat, Int.reduceNeg, Int.reduceEq, axt, ftK, ft3, AAll, ftQ, SL, tys]
      exact ⟨_, rfl, Sees.sc⟩
    · simp (maxSteps := 400000) (dsimp := false) only [h0, h1, h5, hp0, hpl, hg, IT_len, hk, hw, axs, axw, aresL, afill, Value.oneCell', Nat.reduceLT, Nat.reduceLeDiff, Nat.reduceEqDiff, Nat.reduceAdd, Nat.reduceMul, Nat.reduceSub, Nat.reduceBEq, Int.reduceLE, Int.reduceLT, Int.reduceToNat, Int.reduceNeg, Int.reduceEq, axt, ftK, ft3, AAll, ftQ, SL, tys]
      refine ⟨hlt, fun q y hq hy => ?_⟩
      rcases Nat.lt_or_ge q p with h | h
      · exact hno q y h hy
      · obtain rfl : q = p := by omega
        rw [hx] at hy
        cases hy
        exact decide_eq_false hk
  · have hpl : ¬ (p : Int) < S.length := by omega
    have hi : idxK S k = -1 := idxT_miss (fun q y hq hy => hno q y (by omega) hy)
    rw [hi]
    simp (maxSteps := 400000) (dsimp := false) only [h0, h1, h5, hpl, IT_len, axs, axw, aresL, afill, Value.oneCell', Nat.reduceLT, Nat.reduceLeDiff, Nat.reduceEqDiff, Nat.reduceAdd, Nat.reduceMul, Nat.reduceSub, Nat.reduceBEq, Int.reduceLE, Int.reduceLT, Int.reduceToNat, Int.reduceNeg, Int.reduceEq, axt, ftK, ft3, AAll, ftQ, SL, tys]
    exact ⟨_, rfl, Sees.sc⟩
theorem rLowest (S : List (Int × Int)) (kd : Int) (hl : S.length ≤ 1000000) : PCalls Try.prog 99 [.lst 2 (IT S), .sc (.int .i64 kd)] (.sc (.int .i64 ((upTo kd S : Int) - 1))) := by
  refine PCalls.intro2 Try.func99 rfl rfl Try.ntmps99 Try.results99 (by simp) fun n => ?_; simp (maxSteps := 400000) (dsimp := false) only [axs, axw, aresL, afill, Value.oneCell', Nat.reduceLT, Nat.reduceLeDiff, Nat.reduceEqDiff, Nat.reduceAdd, Nat.reduceMul, Nat.reduceSub, Nat.reduceBEq, Int.reduceLE, Int.reduceLT, Int.reduceToNat, Int.reduceNeg, Int.reduceEq, axt, ftK, ft3, AAll, ftQ, SL, tys]
  refine ALoop.upto S.length (fun p s => s.t 0 = .lst 2 (IT S) ∧ s.t 1 = .sc (.int .i64 kd) ∧ s.t 5 = .sc (.int .i64 ((upTo kd (S.take p) : Int) - 1)) ∧ s.t 6 = .sc (.int .i64 p)) ⟨rfl, rfl, rfl, rfl⟩ ?_
  rintro p s hp hb ⟨h0, h1, h5, h6⟩
  rcases Nat.lt_or_ge p S.length with hlt | hge
  · obtain ⟨x, hx, hp0, hpl, hw, hT, hD⟩ := idx hlt (by omega)
    have hg := IT_get hx
    have hlp : (S.take p).length = p := by rw [List.length_take]; omega
    rw [hT, upTo_snoc, hlp]
    by_cases hk : x.2 = kd
    · rw [if_pos hk]
      have hp1 : (((p + 1 : Nat) : Int)) - 1 = p := by omega
      rw [hp1]
      simp (maxSteps := 400000) (dsimp := false) only [h0, h1, h5, h6, hp0, hpl, hg, IT_len, hk, hw, axs, axw, aresL, afill, Value.oneCell', Nat.reduceLT, Nat.reduceLeDiff, Nat.reduceEqDiff, Nat.reduceAdd, Nat.reduceMul, Nat.reduceSub, Nat.reduceBEq, Int.reduceLE, Int.reduceLT, Int.reduceToNat, Int.reduceNeg, Int.reduceEq, axt, ftK, ft3, AAll, ftQ, SL, tys]
      exact hlt
    · rw [if_neg hk]
      simp (maxSteps := 400000) (dsimp := false) only [h0, h1, h5, h6, hp0, hpl, hg, IT_len, hk, hw, axs, axw, aresL, afill, Value.oneCell', Nat.reduceLT, Nat.reduceLeDiff, Nat.reduceEqDiff, Nat.reduceAdd, Nat.reduceMul, Nat.reduceSub, Nat.reduceBEq, Int.reduceLE, Int.reduceLT, Int.reduceToNat, Int.reduceNeg, Int.reduceEq, axt, ftK, ft3, AAll, ftQ, SL, tys]
      exact hlt
  · have hpl : ¬ (p : Int) < S.length := by omega
    rw [List.take_of_length_le hge] at h5
    simp (maxSteps := 400000) (dsimp := false) only [h0, h1, h5, h6, hpl, IT_len, axs, axw, aresL, afill, Value.oneCell', Nat.reduceLT, Nat.reduceLeDiff, Nat.reduceEqDiff, Nat.reduceAdd, Nat.reduceMul, Nat.reduceSub, Nat.reduceBEq, Int.reduceLE, Int.reduceLT, Int.reduceToNat, Int.reduceNeg, Int.reduceEq, axt, ftK, ft3, AAll, ftQ, SL, tys]
    exact ⟨_, rfl, Sees.sc⟩
end Go.Al.K12
end
section
set_option linter.unusedVariables false
set_option linter.unusedSimpArgs false
set_option maxRecDepth 20000
set_option maxHeartbeats 3200000
-- axs, axw, aresL, afill, Value.oneCell', Nat.reduceLT, Nat.reduceLeDiff, Nat.reduceEqDiff, Nat.reduceAdd, Nat.reduceMul, Nat.reduceSub, Nat.reduceBEq, Int.reduceLE, Int.reduceLT, Int.reduceToNat, Int.reduceNeg, Int.reduceEq, axt, ftK, ft3, AAll, ftQ, SL, tys: SL
-- NOIDS: noIdsE_IT
-- LENS: IT_len
namespace Go.Al.K12
open Go.Proofs
theorem rCut (l : List (Int × Int)) (i : Nat) (h : i < l.length) (hl : l.length ≤ 1000000) : PCalls Try.prog 88 [.lst 2 (IT l), .sc (.int .i64 i)] (.lst 2 (IT (l.eraseIdx i))) := by
  have e : l.eraseIdx i = l.take i ++ l.drop (i + 1) := List.eraseIdx_eq_take_drop_succ _ _
  rw [e]
  have i0 : (0 : Int) ≤ i := by omega
  have i1 : (i : Int) ≤ l.length := by omega
  have i2 : (0 : Int) ≤ ((i + 1 : Nat) : Int) := by omega
  have i3 : ((i + 1 : Nat) : Int) ≤ l.length := by omega
  have w1 : IntKind.i64.wrap ((i : Int) + 1) = ((i + 1 : Nat) : Int) := by rw [wrap_in (by omega) (by omega)]; rfl
  have hd : List.take (l.length - (i + 1)) (List.drop (i + 1) l) = List.drop (i + 1) l := List.take_of_length_le (by rw [List.length_drop]; omega)
  have h1 : (List.take i l).length ≤ 1000000 := by rw [List.length_take]; omega
  have h2 : (List.drop (i + 1) l).length ≤ 1000000 := by rw [List.length_drop]; omega
  generalize hA : List.take i l = A at *
  generalize hB : List.drop (i + 1) l = B at *
  have b1 : A.length * 16 ≤ 140737488355328 := by omega
  have b2 : A.length ≤ 1099511627776 := by omega
  have b3 : (A.length + B.length) * 16 ≤ 140737488355328 := by omega
  have b4 : A.length + B.length ≤ 1099511627776 := by omega
  refine PCalls.intro2 Try.func88 rfl rfl Try.ntmps88 Try.results88 (by simp) fun n => ?_; simp (maxSteps := 400000) (dsimp := false) only [i0, i1, i2, i3, w1, IT_len, IT_take, IT_drop, hA, hB, hd, b1, b2, b3, b4, axs, axw, aresL, afill, Value.oneCell', Nat.reduceLT, Nat.reduceLeDiff, Nat.reduceEqDiff, Nat.reduceAdd, Nat.reduceMul, Nat.reduceSub, Nat.reduceBEq, Int.reduceLE, Int.reduceLT, Int.reduceToNat, Int.reduceNeg, Int.reduceEq, axt, ftK, ft3, AAll, ftQ, SL, tys]
  rw [← IT_append]
  exact ⟨_, rfl, (Live.mk (upd_same _ _ _) (by simp [IT_len]) : Live 119 2 _ (IT (A ++ B)) _).sees (noIdsE_IT _)⟩
theorem rSet (l : List (Int × Int)) (i : Nat) (kd : Int) (h : i < l.length) (hl : l.length ≤ 1000000) : PCalls Try.prog 100 [.lst 2 (IT l), .sc (.int .i64 i), .sc (.int .i64 kd)] (.lst 2 (IT (setKd l i kd))) := by
  obtain ⟨x, hx⟩ : ∃ x, l[i]? = some x := ⟨_, List.getElem?_eq_getElem h⟩
  have e : setKd l i kd = l.set i (x.1, kd) := by
    unfold setKd
    rw [List.getD_eq_getElem?_getD, hx]; rfl
  rw [e]
  have i0 : (0 : Int) ≤ (i : Int) := by omega
  have i1 : (i : Int) < l.length := by omega
  have hg := IT_get hx
  have b1 : l.length * 16 ≤ 140737488355328 := by omega
  have b2 : l.length ≤ 1099511627776 := by omega
  refine PCalls.intro2 Try.func100 rfl rfl Try.ntmps100 Try.results100 (by simp) fun n => ?_; simp (maxSteps := 400000) (dsimp := false) only [i0, i1, IT_len, hg, b1, b2, axs, axw, aresL, afill, Value.oneCell', Nat.reduceLT, Nat.reduceLeDiff, Nat.reduceEqDiff, Nat.reduceAdd, Nat.reduceMul, Nat.reduceSub, Nat.reduceBEq, Int.reduceLE, Int.reduceLT, Int.reduceToNat, Int.reduceNeg, Int.reduceEq, axt, ftK, ft3, AAll, ftQ, SL, tys]
  rw [IT_set]
  exact ⟨_, rfl, (Live.mk (upd_same _ _ _) (by simp [IT_len]) : Live 119 2 _ (IT (l.set i (x.1, kd))) _).sees (noIdsE_IT _)⟩
theorem pruned_nil : pruned [] = [] := rfl
theorem pruned_last {A : List (Int × Int)} {x : Int × Int} (h : x.2 = 2) : pruned (A ++ [x]) = A ++ [x] := by
  unfold pruned
  rw [upTo_snoc, if_pos h, List.take_of_length_le (by simp)]
theorem pruned_drop {A : List (Int × Int)} {x : Int × Int} (h : x.2 ≠ 2) : pruned (A ++ [x]) = pruned A := by
  unfold pruned
  rw [upTo_snoc, if_neg h, List.take_append_of_le_length (upTo_le A)]
theorem rPrune (s : LS) (hl : s.S.length ≤ 1000000) : PCalls Try.prog 78 [SL s] (SL (pruneL s)) := by
  obtain ⟨C, S, Q⟩ := s
  simp only at hl
  show PCalls _ _ _ (SL ⟨C, pruned S, Q⟩)
  refine PCalls.intro2 Try.func78 rfl rfl Try.ntmps78 Try.results78 (by simp) fun n => ?_; simp (maxSteps := 400000) (dsimp := false) only [axs, axw, aresL, afill, Value.oneCell', Nat.reduceLT, Nat.reduceLeDiff, Nat.reduceEqDiff, Nat.reduceAdd, Nat.reduceMul, Nat.reduceSub, Nat.reduceBEq, Int.reduceLE, Int.reduceLT, Int.reduceToNat, Int.reduceNeg, Int.reduceEq, axt, ftK, ft3, AAll, ftQ, SL, tys]
  refine ALoop.falls (fun x : List (Int × Int) => x.length) (fun x t => t.t 1 = .ptr n 3 0 0 ∧ t.t 2 = .ptr (n + 1) 3 0 0 ∧ t.H n = some (.obj 46 3 [[.sc (.int .i64 C), .lst 2 (IT x), .lst 1 (U Q)]] false) ∧ t.H (n + 1) = some (.obj 46 3 [[.sc (.int .i64 0), .sc (.slice none 0 0), .sc (.slice none 0 0)]] false) ∧ pruned x = pruned S ∧ x.length ≤ 1000000) S ⟨rfl, rfl, (upd_ne _ _ (by omega)).trans (upd_same _ _ _), upd_same _ _ _, rfl, hl⟩ ?_
  rintro x t hb ⟨h1, h2, hH, hH1, hx, hxl⟩
  have hne : ¬ n = n + 1 ∧ ¬ n + 1 = n := by omega
  rcases List.eq_nil_or_concat x with rfl | ⟨A, y, hy⟩
  · rw [pruned_nil] at hx
    rw [← hx]
    have hl0 : ((IT []).length : Int) = 0 := rfl
    have hn : IT [] = [] := rfl
    rw [hn] at hH
    have hz : ¬ (0 : Int) > 0 := by omega
    simp (maxSteps := 400000) (dsimp := false) only [h1, h2, hH, hH1, hne, hz, axs, axw, aresL, afill, Value.oneCell', Nat.reduceLT, Nat.reduceLeDiff, Nat.reduceEqDiff, Nat.reduceAdd, Nat.reduceMul, Nat.reduceSub, Nat.reduceBEq, Int.reduceLE, Int.reduceLT, Int.reduceToNat, Int.reduceNeg, Int.reduceEq, axt, ftK, ft3, AAll, ftQ, SL, tys]
    exact ⟨_, rfl, Sees.agg (by simp only [SeesL]; exact ⟨Sees.sc, Sees.same rfl, Sees.same (by simp [noIds, noIdsE_U]), trivial⟩)⟩
  · have hy : x = A ++ [y] := by rw [hy]; simp
    subst hy
    rw [List.length_append, List.length_singleton] at hxl
    have hla : (A ++ [y]).length = A.length + 1 := by simp
    have g0 : ((A.length + 1 : Nat) : Int) > 0 := by omega
    have w1 : IntKind.i64.wrap (((A.length + 1 : Nat) : Int) - 1) = (A.length : Int) := by rw [IntWalk.i64_in _ ⟨by omega, by omega⟩]; omega
    have g1 : (0 : Int) ≤ (A.length : Int) := by omega
    have g2 : (A.length : Int) < ((A.length + 1 : Nat) : Int) := by omega
    have g3 : (A.length : Int) ≤ ((A.length + 1 : Nat) : Int) := by omega
    have hg : (IT (A ++ [y]))[A.length]? = some [.sc (.int .u64 y.1), .sc (.int .i64 y.2)] := IT_get (by simp)
    have hL : (IT (A ++ [y])).length = A.length + 1 := by rw [IT_len, hla]
    have hT : List.take A.length (IT (A ++ [y])) = IT A := by rw [IT_take, List.take_left]
    generalize hI : IT (A ++ [y]) = I at *
    by_cases hk : y.2 = 2
    · rw [pruned_last hk] at hx
      rw [← hx]
      simp (maxSteps := 400000) (dsimp := false) only [h1, h2, hH, hH1, hne, hL, g0, w1, g1, g2, hg, hk, axs, axw, aresL, afill, Value.oneCell', Nat.reduceLT, Nat.reduceLeDiff, Nat.reduceEqDiff, Nat.reduceAdd, Nat.reduceMul, Nat.reduceSub, Nat.reduceBEq, Int.reduceLE, Int.reduceLT, Int.reduceToNat, Int.reduceNeg, Int.reduceEq, axt, ftK, ft3, AAll, ftQ, SL, tys]
      subst hI
      exact ⟨_, rfl, Sees.agg (by simp only [SeesL]; exact ⟨Sees.sc, Sees.same (by simp [noIds, noIdsE_IT]), Sees.same (by simp [noIds, noIdsE_U]), trivial⟩)⟩
    · rw [pruned_drop hk] at hx
      simp (maxSteps := 400000) (dsimp := false) only [h1, h2, hH, hH1, hne, hL, g0, w1, g1, g2, g3, hg, hk, hT, axs, axw, aresL, afill, Value.oneCell', Nat.reduceLT, Nat.reduceLeDiff, Nat.reduceEqDiff, Nat.reduceAdd, Nat.reduceMul, Nat.reduceSub, Nat.reduceBEq, Int.reduceLE, Int.reduceLT, Int.reduceToNat, Int.reduceNeg, Int.reduceEq, axt, ftK, ft3, AAll, ftQ, SL, tys]
      exact ⟨A, by rw [hla]; omega, rfl, hx, by omega⟩
end Go.Al.K12
end
section
set_option linter.unusedVariables false
set_option linter.unusedSimpArgs false
set_option maxRecDepth 20000
set_option maxHeartbeats 3200000
-- axs, axw, aresL, afill, Value.oneCell', Nat.reduceLT, Nat.reduceLeDiff, Nat.reduceEqDiff, Nat.reduceAdd, Nat.reduceMul, Nat.reduceSub, Nat.reduceBEq, Int.reduceLE, Int.reduceLT, Int.reduceToNat, Int.reduceNeg, Int.reduceEq, axt, ftK, ft3, AAll, ftQ, SL, tys: SL
-- NOIDS: noIdsE_IT
-- LENS: IT_len
namespace Go.Al.K12
open Go.Proofs
theorem see78160 {p : Prop} (h : p := by repeat' (first | exact True.intro | exact Sees.sc | exact Sees.none | ((with_reducible refine Sees.same ?_) <;> simp [noIds, noIdsL, noIdsE, noIdsE_U, noIdsE_UU, noIdsE_IT] <;> fail) | (refine Live.sees ?_ ?_ <;> first | assumption | (simp [noIdsE_U, noIdsE_UU, noIdsE_IT] <;> fail)) | (refine Sees.obj ?_ ?_ ?_ <;> first | exact ⟨_, _, by assumption, rfl⟩ | (simp [U_len, UU_len, IT_len] <;> fail) | (simp [noIdsE_U, noIdsE_UU, noIdsE_IT] <;> fail) | (simp [U, UU, upd] <;> fail) | (simp [U, UU, upd, neS, *] <;> fail)) | (refine Sees.of_seen 3 ?_ <;> simp [seen, upd, noIdsE, noIdsL, noIds, U, UU, Nat.add_assoc] <;> fail) | refine Sees.agg ?_ | refine And.intro ?_ ?_ | simp only [SeesL])) : p := h
theorem see78161 {p : Prop} (h : p := by repeat' (first | exact True.intro | exact Sees.sc | exact Sees.none | ((with_reducible refine Sees.same ?_) <;> simp [noIds, noIdsL, noIdsE, noIdsE_U, noIdsE_UU, noIdsE_IT] <;> fail) | (refine Live.sees ?_ ?_ <;> first | assumption | (simp [noIdsE_U, noIdsE_UU, noIdsE_IT] <;> fail)) | (refine Sees.obj ?_ ?_ ?_ <;> first | exact ⟨_, _, by assumption, rfl⟩ | (simp [U_len, UU_len, IT_len] <;> fail) | (simp [noIdsE_U, noIdsE_UU, noIdsE_IT] <;> fail) | (simp [U, UU, upd, neS] <;> fail) | (simp [U, UU, upd, neS, *] <;> fail)) | refine Sees.agg ?_ | refine Sees.tup ?_ | refine And.intro ?_ ?_ | simp only [SeesL])) : p := h
theorem rStack (s : LS) (k kd : Int) (hl : s.S.length ≤ 1000000) : PCalls Try.prog 79 [SL s, .sc (.int .u64 k), .sc (.int .i64 kd)] (SL (stkL s k kd)) := by
  obtain ⟨C, S, Q⟩ := s
  simp only at hl
  show PCalls _ _ _ (SL ⟨C, (k, kd) :: remK S k, Q⟩)
  have hix := idxK_lt S k
  have hrl := remK_len S k
  have cp := rPlace S k hl
  have b1 : (1 + (remK S k).length) * 16 ≤ 140737488355328 := by omega
  have b2 : 1 + (remK S k).length ≤ 1099511627776 := by omega
  by_cases hi : idxK S k ≥ 0
  · obtain ⟨i, hii⟩ : ∃ i : Nat, idxK S k = i := ⟨(idxK S k).toNat, by omega⟩
    have hr : remK S k = S.eraseIdx i := by
      unfold remK takeP
      rw [hii, if_neg (by omega)]; rfl
    have cc := rCut S i (by omega) hl
    rw [hii] at cp hi
    rw [← hr] at cc
    refine PCalls.intro2 Try.func79 rfl rfl Try.ntmps79 Try.results79 (by simp) fun n => ?_; simp (maxSteps := 400000) (dsimp := false) only [axs, axw, aresL, afill, Value.oneCell', Nat.reduceLT, Nat.reduceLeDiff, Nat.reduceEqDiff, Nat.reduceAdd, Nat.reduceMul, Nat.reduceSub, Nat.reduceBEq, Int.reduceLE, Int.reduceLT, Int.reduceToNat, Int.reduceNeg, Int.reduceEq, axt, ftK, ft3, AAll, ftQ, SL, tys]
    refine ACallK.strict rfl (cp) (by simp only [SeesL, hi, axs, axt, AS.ev, AS.put, upd, inHeap, Nat.reduceLT, Nat.reduceEqDiff, Nat.reduceAdd, Nat.reduceBEq, SL]; exact see78160) ?_; simp (maxSteps := 400000) (dsimp := false) only [hi, axs, axw, aresL, afill, Value.oneCell', Nat.reduceLT, Nat.reduceLeDiff, Nat.reduceEqDiff, Nat.reduceAdd, Nat.reduceMul, Nat.reduceSub, Nat.reduceBEq, Int.reduceLE, Int.reduceLT, Int.reduceToNat, Int.reduceNeg, Int.reduceEq, axt, ftK, ft3, AAll, ftQ, SL, tys]
    refine ACallK.strict rfl (cc) (by simp only [SeesL, IT_len, b1, b2, axs, axt, AS.ev, AS.put, upd, inHeap, Nat.reduceLT, Nat.reduceEqDiff, Nat.reduceAdd, Nat.reduceBEq, SL]; exact see78160) ?_; simp (maxSteps := 400000) (dsimp := false) only [IT_len, b1, b2, axs, axw, aresL, afill, Value.oneCell', Nat.reduceLT, Nat.reduceLeDiff, Nat.reduceEqDiff, Nat.reduceAdd, Nat.reduceMul, Nat.reduceSub, Nat.reduceBEq, Int.reduceLE, Int.reduceLT, Int.reduceToNat, Int.reduceNeg, Int.reduceEq, axt, ftK, ft3, AAll, ftQ, SL, tys]
    exact ⟨_, rfl, Sees.agg (by simp only [SeesL]; exact ⟨Sees.sc, (Live.mk (te := 119) (es := IT ((k, kd) :: remK S k)) (m := 1 + (remK S k).length) ((upd_ne _ _ (by omega)).trans ((upd_ne _ _ (by omega)).trans (upd_same _ _ _))) (by rw [IT_len, List.length_cons]; omega)).sees (noIdsE_IT _), Sees.same (by simp [noIds, noIdsE_U]), trivial⟩)⟩
  · have hii : idxK S k = -1 := by omega
    have hr : remK S k = S := by
      unfold remK takeP
      rw [hii, if_pos (by omega)]
    rw [hii] at cp hi
    rw [hr] at b1 b2 ⊢
    refine PCalls.intro2 Try.func79 rfl rfl Try.ntmps79 Try.results79 (by simp) fun n => ?_; simp (maxSteps := 400000) (dsimp := false) only [axs, axw, aresL, afill, Value.oneCell', Nat.reduceLT, Nat.reduceLeDiff, Nat.reduceEqDiff, Nat.reduceAdd, Nat.reduceMul, Nat.reduceSub, Nat.reduceBEq, Int.reduceLE, Int.reduceLT, Int.reduceToNat, Int.reduceNeg, Int.reduceEq, axt, ftK, ft3, AAll, ftQ, SL, tys]
    refine ACallK.strict rfl (cp) (by simp only [SeesL, hi, IT_len, b1, b2, axs, axt, AS.ev, AS.put, upd, inHeap, Nat.reduceLT, Nat.reduceEqDiff, Nat.reduceAdd, Nat.reduceBEq, SL]; exact see78160) ?_; simp (maxSteps := 400000) (dsimp := false) only [hi, IT_len, b1, b2, axs, axw, aresL, afill, Value.oneCell', Nat.reduceLT, Nat.reduceLeDiff, Nat.reduceEqDiff, Nat.reduceAdd, Nat.reduceMul, Nat.reduceSub, Nat.reduceBEq, Int.reduceLE, Int.reduceLT, Int.reduceToNat, Int.reduceNeg, Int.reduceEq, axt, ftK, ft3, AAll, ftQ, SL, tys]
    exact ⟨_, rfl, Sees.agg (by simp only [SeesL]; exact ⟨Sees.sc, (Live.mk (te := 119) (es := IT ((k, kd) :: S)) (m := 1 + S.length) ((upd_ne _ _ (by omega)).trans ((upd_ne _ _ (by omega)).trans (upd_same _ _ _))) (by rw [IT_len, List.length_cons]; omega)).sees (noIdsE_IT _), Sees.same (by simp [noIds, noIdsE_U]), trivial⟩)⟩
/-- A row without a key: a new row. -/
theorem rWithoutH (l : List Int) (v : Int) (hl : l.length ≤ 1000000) (H : AH) (n : Nat) : HCalls Try.prog 76 [.lst 1 (U l), .sc (.int .u64 v)] H n fun r H' n' => Live 54 1 H' (U (without l v)) r ∧ (∀ id z o m, r = .sl id z o m → n ≤ id ∧ id < n') ∧ Keeps H n H' n' := by
  refine HCalls.walk Try.func76 rfl rfl Try.ntmps76 Try.results76 (by simp) ?_; simp (maxSteps := 400000) (dsimp := false) only [axs, axw, aresL, afill, Value.oneCell', Nat.reduceLT, Nat.reduceLeDiff, Nat.reduceEqDiff, Nat.reduceAdd, Nat.reduceMul, Nat.reduceSub, Nat.reduceBEq, Int.reduceLE, Int.reduceLT, Int.reduceToNat, Int.reduceNeg, Int.reduceEq, axt, ftK, ft3, AAll, ftQ, SL, tys]
  refine ALoop.upto l.length (fun p s => s.t 0 = .lst 1 (U l) ∧ s.t 1 = .sc (.int .u64 v) ∧ s.t 6 = .sc (.int .i64 p) ∧ Live 54 1 s.H (U (without (l.take p) v)) (s.t 5) ∧ (∀ id z o m, s.t 5 = .sl id z o m → n ≤ id ∧ id < s.n) ∧ Keeps H n s.H s.n) ⟨rfl, rfl, rfl, Live.nil, (fun id z o m e => (nomatch e)), Keeps.refl _ _⟩ ?_
  rintro p s hp hb ⟨h0, h1, h6, hv, hid, kp⟩
  have hns := kp.1
  have hwl : (without (l.take p) v).length ≤ 1000000 := Nat.le_trans (without_len _ _) (by rw [List.length_take]; omega)
  rcases Nat.lt_or_ge p l.length with hlt | hge
  · obtain ⟨x, hx, hp0, hpl, hw, hT, hD⟩ := idx hlt (by omega)
    have hg := U_get hx
    by_cases e : x = v
    · simp (maxSteps := 400000) (dsimp := false) only [h0, h1, h6, hg, hp0, hpl, hw, U_len, e, axs, axw, aresL, afill, Value.oneCell', Nat.reduceLT, Nat.reduceLeDiff, Nat.reduceEqDiff, Nat.reduceAdd, Nat.reduceMul, Nat.reduceSub, Nat.reduceBEq, Int.reduceLE, Int.reduceLT, Int.reduceToNat, Int.reduceNeg, Int.reduceEq, axt, ftK, ft3, AAll, ftQ, SL, tys]
      exact ⟨hlt, (by rw [hT, e]; simpa [without] using hv), hid, kp⟩
    · have hs : without (l.take (p + 1)) v = without (l.take p) v ++ [x] := by rw [hT]; simp [without, e]
      rw [hs, U_snoc]
      generalize without (l.take p) v = q at *
      rcases hv.cases hb with ⟨h7, h8⟩ | ⟨id, hlt2, hne, h7, h8⟩
      · have : q = [] := by simpa [U] using h7
        subst this
        simp (maxSteps := 400000) (dsimp := false) only [h0, h1, h6, hg, hp0, hpl, hw, U_len, e, h8, axs, axw, aresL, afill, Value.oneCell', Nat.reduceLT, Nat.reduceLeDiff, Nat.reduceEqDiff, Nat.reduceAdd, Nat.reduceMul, Nat.reduceSub, Nat.reduceBEq, Int.reduceLE, Int.reduceLT, Int.reduceToNat, Int.reduceNeg, Int.reduceEq, axt, ftK, ft3, AAll, ftQ, SL, tys]
        refine ⟨hlt, Live.mk (if_pos rfl) rfl, (fun id z o m e => by cases e; omega), by omega, fun j hj => ?_⟩
        exact (upd_ne _ _ (by omega)).trans ((upd_ne _ _ (by omega)).trans (kp.2 j hj))
      · have b1 : (q.length + 1) * 8 ≤ 140737488355328 := by omega
        have b2 : q.length + 1 ≤ 1099511627776 := by omega
        have hi2 := hid _ _ _ _ h7
        rw [U_len] at h7
        simp (maxSteps := 400000) (dsimp := false) only [h0, h1, h6, hg, hp0, hpl, hw, U_len, e, h7, h8, hne, b1, b2, axs, axw, aresL, afill, Value.oneCell', Nat.reduceLT, Nat.reduceLeDiff, Nat.reduceEqDiff, Nat.reduceAdd, Nat.reduceMul, Nat.reduceSub, Nat.reduceBEq, Int.reduceLE, Int.reduceLT, Int.reduceToNat, Int.reduceNeg, Int.reduceEq, axt, ftK, ft3, AAll, ftQ, SL, tys]
        refine ⟨hlt, Live.mk (if_pos rfl) (by simp [U_len]), (fun id z o m e => by cases e; omega), by omega, fun j hj => ?_⟩
        exact (upd_ne _ _ (by omega)).trans ((upd_ne _ _ (by omega)).trans ((upd_ne _ _ (by omega)).trans (kp.2 j hj)))
  · have hpl : ¬ (p : Int) < l.length := by omega
    rw [List.take_of_length_le hge] at hv
    simp (maxSteps := 400000) (dsimp := false) only [h0, h1, h6, hpl, U_len, axs, axw, aresL, afill, Value.oneCell', Nat.reduceLT, Nat.reduceLeDiff, Nat.reduceEqDiff, Nat.reduceAdd, Nat.reduceMul, Nat.reduceSub, Nat.reduceBEq, Int.reduceLE, Int.reduceLT, Int.reduceToNat, Int.reduceNeg, Int.reduceEq, axt, ftK, ft3, AAll, ftQ, SL, tys]
    exact ⟨_, rfl, hv, hid, kp⟩
theorem rLast (s : LS) (k : Int) (hq : s.Q.length ≤ 100000) : PCalls Try.prog 80 [SL s, .sc (.int .u64 k)] (SL (behindL s k)) := by
  obtain ⟨C, S, Q⟩ := s
  simp only at hq
  show PCalls _ _ _ (SL ⟨C, S, lastQ Q k⟩)
  have hwl := without_len Q k
  unfold lastQ
  refine PCalls.intro2 Try.func80 rfl rfl Try.ntmps80 Try.results80 (by simp) fun n => ?_; simp (maxSteps := 400000) (dsimp := false) only [axs, axw, aresL, afill, Value.oneCell', Nat.reduceLT, Nat.reduceLeDiff, Nat.reduceEqDiff, Nat.reduceAdd, Nat.reduceMul, Nat.reduceSub, Nat.reduceBEq, Int.reduceLE, Int.reduceLT, Int.reduceToNat, Int.reduceNeg, Int.reduceEq, axt, ftK, ft3, AAll, ftQ, SL, tys]
  refine ACallK.heap _ rfl (rWithoutH Q k (by omega) _ _) ?_
  rintro r H1 n1 ⟨lr, hir, kp⟩
  have kp : Keeps _ (n + 1 + 1) H1 n1 := kp
  have lr : Live 54 1 H1 (U (without Q k)) r := lr
  have hir : ∀ id z o m, r = .sl id z o m → n + 1 + 1 ≤ id ∧ id < n1 := hir
  have hn1 := kp.1
  have e1 := (kp.2 (n + 1) (by omega)).trans (upd_same _ _ _)
  have e0 := (kp.2 n (by omega)).trans ((upd_ne _ _ (by omega)).trans (upd_same _ _ _))
  clear kp
  generalize without Q k = q at *
  have b1 : (q.length + 1) * 8 ≤ 140737488355328 := by omega
  have b2 : q.length + 1 ≤ 1099511627776 := by omega
  have hne : (¬ n = n + 1 ∧ ¬ n + 1 = n) ∧ (¬ n = n1 ∧ ¬ n1 = n ∧ ¬ n + 1 = n1 ∧ ¬ n1 = n + 1) ∧ (¬ n = n1 + 1 ∧ ¬ n1 + 1 = n ∧ ¬ n + 1 = n1 + 1 ∧ ¬ n1 + 1 = n + 1) := by omega
  have hsn : U (q ++ [k]) = U q ++ [[.sc (.int .u64 k)]] := U_snoc q k
  have fin : ∀ (H2 : AH) (v : AV), Live 54 1 H2 (U (q ++ [k])) v → Sees H2 true (.agg [.sc (.int .i64 C), .lst 2 (IT S), v]) (.agg [.sc (.int .i64 C), .lst 2 (IT S), .lst 1 (U (q ++ [k]))]) := fun H2 v lv => Sees.agg (by simp only [SeesL]; exact ⟨Sees.sc, Sees.same (by simp [noIds, noIdsE_IT]), lv.sees (noIdsE_U _), trivial⟩)
  rcases lr with ⟨h1, h2⟩ | ⟨id, h1, h2⟩
  · obtain rfl : q = [] := by simpa [U] using h1
    subst h2
    simp (maxSteps := 400000) (dsimp := false) only [e0, e1, hne, axs, axw, aresL, afill, Value.oneCell', Nat.reduceLT, Nat.reduceLeDiff, Nat.reduceEqDiff, Nat.reduceAdd, Nat.reduceMul, Nat.reduceSub, Nat.reduceBEq, Int.reduceLE, Int.reduceLT, Int.reduceToNat, Int.reduceNeg, Int.reduceEq, axt, ftK, ft3, AAll, ftQ, SL, tys]
    exact ⟨_, rfl, fin _ _ (Live.mk ((upd_ne _ _ (by omega)).trans ((upd_ne _ _ (by omega)).trans (upd_same _ _ _))) rfl)⟩
  · have hid := hir _ _ _ _ h1
    rw [U_len] at h1
    subst h1
    have hne2 : ¬ id = n1 ∧ ¬ n1 = id ∧ ¬ id = n1 + 1 ∧ ¬ n1 + 1 = id ∧ ¬ id = n ∧ ¬ n = id ∧ ¬ id = n + 1 ∧ ¬ n + 1 = id := by omega
    simp (maxSteps := 400000) (dsimp := false) only [e0, e1, hne, h2, b1, b2, U_len, hne2, axs, axw, aresL, afill, Value.oneCell', Nat.reduceLT, Nat.reduceLeDiff, Nat.reduceEqDiff, Nat.reduceAdd, Nat.reduceMul, Nat.reduceSub, Nat.reduceBEq, Int.reduceLE, Int.reduceLT, Int.reduceToNat, Int.reduceNeg, Int.reduceEq, axt, ftK, ft3, AAll, ftQ, SL, tys]
    refine ⟨_, rfl, fin _ _ ?_⟩
    rw [hsn]
    exact Live.mk ((upd_ne _ _ (by omega)).trans ((upd_ne _ _ (by omega)).trans (upd_same _ _ _))) (by simp [U_len])
theorem rForget (s : LS) (hl : s.S.length ≤ 1000) (c0 : 0 ≤ s.C) : PCalls Try.prog 96 [SL s] (SL (forgetL s)) := by
  refine PCalls.intro2 Try.func96 rfl rfl Try.ntmps96 Try.results96 (by simp) fun n => ?_; simp (maxSteps := 400000) (dsimp := false) only [axs, axw, aresL, afill, Value.oneCell', Nat.reduceLT, Nat.reduceLeDiff, Nat.reduceEqDiff, Nat.reduceAdd, Nat.reduceMul, Nat.reduceSub, Nat.reduceBEq, Int.reduceLE, Int.reduceLT, Int.reduceToNat, Int.reduceNeg, Int.reduceEq, axt, ftK, ft3, AAll, ftQ, SL, tys]
  refine ALoop.intro (fun k t => t.t 1 = .ptr n 3 0 0 ∧ t.t 2 = .ptr (n + 1) 3 0 0 ∧ t.H (n + 1) = some (.obj 46 3 [[.sc (.int .i64 0), .sc (.slice none 0 0), .sc (.slice none 0 0)]] false) ∧ ∃ x : LS, t.H n = some (.obj 46 3 [[.sc (.int .i64 x.C), .lst 2 (IT x.S), .lst 1 (U x.Q)]] false) ∧ forgot k x = forgetL s ∧ many 0 x.S ≤ k ∧ x.C = s.C ∧ x.S.length ≤ 1000) (many 0 s.S) ⟨rfl, rfl, upd_same _ _ _, s, (upd_ne _ _ (by omega)).trans (upd_same _ _ _), rfl, Nat.le_refl _, rfl, hl⟩ ?_
  rintro k t ⟨h1, h2, hH1, x, hH, hx, hmk, hC, hxl⟩
  have hne : ¬ n = n + 1 ∧ ¬ n + 1 = n := by omega
  have cm := rMany x.S 0 (by omega)
  have cl := rLowest x.S 0 (by omega)
  have hul := upTo_le (k := 0) x.S
  have htl := takeP_len x.S ((upTo 0 x.S : Int) - 1)
  simp (maxSteps := 400000) (dsimp := false) only [h1, h2, axs, axw, aresL, afill, Value.oneCell', Nat.reduceLT, Nat.reduceLeDiff, Nat.reduceEqDiff, Nat.reduceAdd, Nat.reduceMul, Nat.reduceSub, Nat.reduceBEq, Int.reduceLE, Int.reduceLT, Int.reduceToNat, Int.reduceNeg, Int.reduceEq, axt, ftK, ft3, AAll, ftQ, SL, tys]
  refine ADraw.planR [] [(0, true), (1, true), (2, true), (3, true), (4, true), (5, true)] [(0, false), (0, false), (0, false), (0, false), (0, false), (0, false)] mixed (by kernel_rfl) (by kernel_rfl) ?_
  simp (maxSteps := 400000) (dsimp := false) only [h1, h2, hH, axs, axw, aresL, afill, Value.oneCell', Nat.reduceLT, Nat.reduceLeDiff, Nat.reduceEqDiff, Nat.reduceAdd, Nat.reduceMul, Nat.reduceSub, Nat.reduceBEq, Int.reduceLE, Int.reduceLT, Int.reduceToNat, Int.reduceNeg, Int.reduceEq, axt, ftK, ft3, AAll, ftQ, SL, tys]
  by_cases hc : (many 0 x.S : Int) > x.C
  · obtain ⟨m, rfl⟩ : ∃ m, k = m + 1 := ⟨k - 1, by omega⟩
    have hx2 : forgot m ⟨x.C, takeP x.S ((upTo 0 x.S : Int) - 1), x.Q⟩ = forgetL s := by rw [← hx]; exact (if_pos hc).symm
    obtain ⟨n3, A, y, B, d1, d2, d3⟩ := take_last (k := 0) (S := x.S) (by omega)
    obtain ⟨i, hi⟩ : ∃ i : Nat, upTo 0 x.S = i + 1 := by
      obtain ⟨A, y, B, g1, g2, g3, g4⟩ := last_of (k := 0) (S := x.S) (by omega)
      exact ⟨A.length, g2⟩
    have ei : (upTo 0 x.S : Int) - 1 = (i : Int) := by omega
    have et : takeP x.S ((upTo 0 x.S : Int) - 1) = x.S.eraseIdx i := by
      rw [ei]; unfold takeP; rw [if_neg (by omega)]; rfl
    rw [et] at n3 hx2 htl
    rw [ei] at cl
    have ct := rCut x.S i (by omega) (by omega)
    refine ACallP.pure rfl (cm) ?_; simp (maxSteps := 400000) (dsimp := false) only [h1, h2, hH, hc, axs, axw, aresL, afill, Value.oneCell', Nat.reduceLT, Nat.reduceLeDiff, Nat.reduceEqDiff, Nat.reduceAdd, Nat.reduceMul, Nat.reduceSub, Nat.reduceBEq, Int.reduceLE, Int.reduceLT, Int.reduceToNat, Int.reduceNeg, Int.reduceEq, axt, ftK, ft3, AAll, ftQ, SL, tys]
    refine ADraw.planR [] [(0, true), (1, true), (2, true), (3, true), (4, true), (5, true), (6, true), (7, true)] [(0, false), (0, false), (0, false), (0, false), (0, false), (0, false), (0, false), (0, false)] mixed (by kernel_rfl) (by kernel_rfl) ?_
    simp (maxSteps := 400000) (dsimp := false) only [h1, h2, hH, axs, axw, aresL, afill, Value.oneCell', Nat.reduceLT, Nat.reduceLeDiff, Nat.reduceEqDiff, Nat.reduceAdd, Nat.reduceMul, Nat.reduceSub, Nat.reduceBEq, Int.reduceLE, Int.reduceLT, Int.reduceToNat, Int.reduceNeg, Int.reduceEq, axt, ftK, ft3, AAll, ftQ, SL, tys]
    refine ACallP.pure rfl (cl) ?_; simp (maxSteps := 400000) (dsimp := false) only [h1, h2, hH, axs, axw, aresL, afill, Value.oneCell', Nat.reduceLT, Nat.reduceLeDiff, Nat.reduceEqDiff, Nat.reduceAdd, Nat.reduceMul, Nat.reduceSub, Nat.reduceBEq, Int.reduceLE, Int.reduceLT, Int.reduceToNat, Int.reduceNeg, Int.reduceEq, axt, ftK, ft3, AAll, ftQ, SL, tys]
    refine ACallP.pure rfl (ct) ?_; simp (maxSteps := 400000) (dsimp := false) only [h1, h2, hH, hH1, hne, axs, axw, aresL, afill, Value.oneCell', Nat.reduceLT, Nat.reduceLeDiff, Nat.reduceEqDiff, Nat.reduceAdd, Nat.reduceMul, Nat.reduceSub, Nat.reduceBEq, Int.reduceLE, Int.reduceLT, Int.reduceToNat, Int.reduceNeg, Int.reduceEq, axt, ftK, ft3, AAll, ftQ, SL, tys]
    exact ⟨m, by omega, ⟨x.C, x.S.eraseIdx i, x.Q⟩, rfl, hx2, by show many 0 (x.S.eraseIdx i) ≤ m; omega, hC, by show (x.S.eraseIdx i).length ≤ _; omega⟩
  · rw [forgot_stop hc] at hx
    refine ACallP.pure rfl (cm) ?_; simp (maxSteps := 400000) (dsimp := false) only [h1, h2, hH, hc, hH1, hne, axs, axw, aresL, afill, Value.oneCell', Nat.reduceLT, Nat.reduceLeDiff, Nat.reduceEqDiff, Nat.reduceAdd, Nat.reduceMul, Nat.reduceSub, Nat.reduceBEq, Int.reduceLE, Int.reduceLT, Int.reduceToNat, Int.reduceNeg, Int.reduceEq, axt, ftK, ft3, AAll, ftQ, SL, tys]
    rw [← hx]
    refine ⟨_, rfl, ?_⟩; simp (maxSteps := 400000) (dsimp := false) only [SeesL, axs, axw, aresL, afill, Value.oneCell', Nat.reduceLT, Nat.reduceLeDiff, Nat.reduceEqDiff, Nat.reduceAdd, Nat.reduceMul, Nat.reduceSub, Nat.reduceBEq, Int.reduceLE, Int.reduceLT, Int.reduceToNat, Int.reduceNeg, Int.reduceEq, axt, ftK, ft3, AAll, ftQ, SL, tys] <;> exact see78161
end Go.Al.K12
end
section
set_option linter.unusedVariables false
set_option linter.unusedSimpArgs false
set_option maxRecDepth 20000
set_option maxHeartbeats 3200000
-- axs, axw, aresL, afill, Value.oneCell', Nat.reduceLT, Nat.reduceLeDiff, Nat.reduceEqDiff, Nat.reduceAdd, Nat.reduceMul, Nat.reduceSub, Nat.reduceBEq, Int.reduceLE, Int.reduceLT, Int.reduceToNat, Int.reduceNeg, Int.reduceEq, axt, ftK, ft3, AAll, ftQ, SL, tys: SL
-- NOIDS: noIdsE_IT
-- LENS: IT_len
namespace Go.Al.K12
open Go.Proofs
theorem see51c00 {p : Prop} (h : p := by repeat' (first | exact True.intro | exact Sees.sc | exact Sees.none | ((with_reducible refine Sees.same ?_) <;> simp [noIds, noIdsL, noIdsE, noIdsE_U, noIdsE_UU, noIdsE_IT] <;> fail) | (refine Live.sees ?_ ?_ <;> first | assumption | (simp [noIdsE_U, noIdsE_UU, noIdsE_IT] <;> fail)) | (refine Sees.obj ?_ ?_ ?_ <;> first | exact ⟨_, _, by assumption, rfl⟩ | (simp [U_len, UU_len, IT_len] <;> fail) | (simp [noIdsE_U, noIdsE_UU, noIdsE_IT] <;> fail) | (simp [U, UU, upd] <;> fail) | (simp [U, UU, upd, neS, *] <;> fail)) | (refine Sees.of_seen 3 ?_ <;> simp [seen, upd, noIdsE, noIdsL, noIds, U, UU, Nat.add_assoc] <;> fail) | refine Sees.agg ?_ | refine And.intro ?_ ?_ | simp only [SeesL])) : p := h
theorem rShrink (s : LS) (z : Int) (hz : (many 2 s.S : Int) ≤ z) (hz2 : z ≤ 1048576) (hl : s.S.length ≤ 1000) (hq : s.Q.length ≤ 1000) : PCalls Try.prog 95 [SL s, .sc (.int .i64 z)] (.tup [SL (shrinkL z s).1, .lst 1 (U (shrinkL z s).2)]) := by
  generalize hR : shrinkL z s = R
  obtain ⟨C, S, Q⟩ := s
  simp only at hz hl hq
  refine PCalls.intro2 Try.func95 rfl rfl Try.ntmps95 Try.results95 (by simp) fun n => ?_; simp (maxSteps := 400000) (dsimp := false) only [axs, axw, aresL, afill, Value.oneCell', Nat.reduceLT, Nat.reduceLeDiff, Nat.reduceEqDiff, Nat.reduceAdd, Nat.reduceMul, Nat.reduceSub, Nat.reduceBEq, Int.reduceLE, Int.reduceLT, Int.reduceToNat, Int.reduceNeg, Int.reduceEq, axt, ftK, ft3, AAll, ftQ, SL, tys]
  refine ALoop.falls (fun x : LS × List Int => x.1.Q.length) (fun x t => t.t 1 = .sc (.int .i64 z) ∧ t.t 2 = .ptr n 3 0 0 ∧ t.t 4 = .ptr (n + 1) 3 0 0 ∧ n + 1 < t.n ∧ t.H n = some (.obj 46 3 [[.sc (.int .i64 x.1.C), .lst 2 (IT x.1.S), .lst 1 (U x.1.Q)]] false) ∧ t.H (n + 1) = some (.obj 46 3 [[.sc (.int .i64 0), .sc (.slice none 0 0), .sc (.slice none 0 0)]] false) ∧ shrunk z x.1.Q.length x.1 x.2 = R ∧ (many 2 x.1.S : Int) ≤ z ∧ x.1.S.length ≤ 1000 ∧ x.2.length + x.1.Q.length ≤ 1000 ∧ Live 54 1 t.H (U x.2) (t.t 6) ∧ ∀ id z o m, t.t 6 = .sl id z o m → n + 1 < id) (⟨C, S, Q⟩, []) ⟨rfl, rfl, rfl, (by show n + 1 < n + 1 + 1; omega), (upd_ne _ _ (by omega)).trans (upd_same _ _ _), upd_same _ _ _, hR, hz, hl, (by show 0 + Q.length ≤ 1000; omega), Live.nil, fun id z o m e => (nomatch e)⟩ ?_
  rintro ⟨⟨C, S, Q⟩, out⟩ t hb ⟨h1, h2, h4, hlt, hH, hH1, hx, hmz, hxl, hxq, hv, hid⟩
  simp only at hH hx hmz hxl hxq hv
  clear hR hz hl hq
  have hne : ¬ n = n + 1 ∧ ¬ n + 1 = n := by omega
  have hml := many_le 2 S
  have cm := rMany S 2 (by omega)
  have w1 : IntKind.i64.wrap ((many 2 S : Int) + Q.length) = (many 2 S : Int) + Q.length := wrap_in (by omega) (by omega)
  simp (maxSteps := 400000) (dsimp := false) only [h1, h2, h4, axs, axw, aresL, afill, Value.oneCell', Nat.reduceLT, Nat.reduceLeDiff, Nat.reduceEqDiff, Nat.reduceAdd, Nat.reduceMul, Nat.reduceSub, Nat.reduceBEq, Int.reduceLE, Int.reduceLT, Int.reduceToNat, Int.reduceNeg, Int.reduceEq, axt, ftK, ft3, AAll, ftQ, SL, tys]
  refine ADraw.planR [] [(0, true), (1, true), (2, true), (3, true), (4, true), (5, true), (6, true), (7, true), (8, true)] [(0, false), (0, false), (0, false), (0, false), (0, false), (0, false), (0, false), (0, false), (0, false)] mixed (by kernel_rfl) (by kernel_rfl) ?_
  simp (maxSteps := 400000) (dsimp := false) only [h1, h2, h4, hH, U_len, axs, axw, aresL, afill, Value.oneCell', Nat.reduceLT, Nat.reduceLeDiff, Nat.reduceEqDiff, Nat.reduceAdd, Nat.reduceMul, Nat.reduceSub, Nat.reduceBEq, Int.reduceLE, Int.reduceLT, Int.reduceToNat, Int.reduceNeg, Int.reduceEq, axt, ftK, ft3, AAll, ftQ, SL, tys]
  by_cases hc : (many 2 S : Int) + Q.length > z
  · obtain ⟨k, q, rfl⟩ : ∃ k q, Q = k :: q := by
      cases Q with
      | nil => simp at hc; omega
      | cons k q => exact ⟨k, q, rfl⟩
    rw [List.length_cons] at hxq
    have hx2 : shrunk z q.length (shrS ⟨C, S, k :: q⟩) (out ++ [k]) = R := by rw [← hx]; exact (if_pos hc).symm
    have hmS := shrS_many ⟨C, S, k :: q⟩
    have hlS := shrS_len ⟨C, S, k :: q⟩
    have g0 : (U (k :: q))[0]? = some [.sc (.int .u64 k)] := rfl
    have g1 : (0 : Int) < ((q.length + 1 : Nat) : Int) := by omega
    have g2 : (1 : Int) ≤ ((q.length + 1 : Nat) : Int) := by omega
    have g3 : (0 : Int) ≤ 1 := by omega
    have hsl : List.take (q.length + 1 - 1) (List.drop 1 (U (k :: q))) = U q := by
      show List.take (q.length + 1 - 1) (U q) = U q
      rw [List.take_of_length_le (by rw [U_len]; omega)]
    have ca := rPlace S k (by omega)
    have b1 : (out.length + 1) * 8 ≤ 140737488355328 := by omega
    have b2 : out.length + 1 ≤ 1099511627776 := by omega
    have hix := idxK_lt S k
    rw [List.length_cons] at w1 hc
    refine ACallP.pure rfl (cm) ?_; simp (maxSteps := 400000) (dsimp := false) only [h1, h2, h4, hH, U_len, w1, hc, g0, g1, g2, g3, hsl, hne, axs, axw, aresL, afill, Value.oneCell', Nat.reduceLT, Nat.reduceLeDiff, Nat.reduceEqDiff, Nat.reduceAdd, Nat.reduceMul, Nat.reduceSub, Nat.reduceBEq, Int.reduceLE, Int.reduceLT, Int.reduceToNat, Int.reduceNeg, Int.reduceEq, axt, ftK, ft3, AAll, ftQ, SL, tys]
    simp only at hmS hlS
    have hmS : ((many 2 (shrS ⟨C, S, k :: q⟩).S : Nat) : Int) ≤ z := by omega
    have hsn : U (out ++ [k]) = U out ++ [[.sc (.int .u64 k)]] := U_snoc out k
    have hn3 : (¬ n = t.n ∧ ¬ n + 1 = t.n) ∧ (¬ n = t.n + 1 ∧ ¬ t.n = n ∧ ¬ t.n = n + 1 ∧ ¬ t.n + 1 = n) := by omega
    rcases hv.cases hb with ⟨e1, e2⟩ | ⟨id, i1, i2, e1, e2⟩
    · obtain rfl : out = [] := by simpa [U] using e1
      by_cases hi : idxK S k ≥ 0
      · obtain ⟨i, hii⟩ : ∃ i : Nat, idxK S k = i := ⟨(idxK S k).toNat, by omega⟩
        have ck := rSet S i 0 (by omega) (by omega)
        have hs : (shrS ⟨C, S, k :: q⟩).S = setKd S i 0 := by
          show (if idxK S k ≥ 0 then setKd S (idxK S k).toNat 0 else S) = _
          rw [if_pos hi, hii]; rfl
        rw [hii] at ca hi
        refine ACallK.strict rfl (ca) (by simp only [SeesL, h1, h2, h4, hH, hne, hi, eq_true hi, axs, axt, AS.ev, AS.put, upd, inHeap, Nat.reduceLT, Nat.reduceEqDiff, Nat.reduceAdd, Nat.reduceBEq, SL]; exact see51c00) ?_; simp (maxSteps := 400000) (dsimp := false) only [h1, h2, h4, hH, hne, hi, eq_true hi, axs, axw, aresL, afill, Value.oneCell', Nat.reduceLT, Nat.reduceLeDiff, Nat.reduceEqDiff, Nat.reduceAdd, Nat.reduceMul, Nat.reduceSub, Nat.reduceBEq, Int.reduceLE, Int.reduceLT, Int.reduceToNat, Int.reduceNeg, Int.reduceEq, axt, ftK, ft3, AAll, ftQ, SL, tys]
        refine ACallK.strict rfl (ck) (by simp only [SeesL, h1, h2, h4, hH, hH1, hne, hn3, e2, axs, axt, AS.ev, AS.put, upd, inHeap, Nat.reduceLT, Nat.reduceEqDiff, Nat.reduceAdd, Nat.reduceBEq, SL]; exact see51c00) ?_; simp (maxSteps := 400000) (dsimp := false) only [h1, h2, h4, hH, hH1, hne, hn3, e2, axs, axw, aresL, afill, Value.oneCell', Nat.reduceLT, Nat.reduceLeDiff, Nat.reduceEqDiff, Nat.reduceAdd, Nat.reduceMul, Nat.reduceSub, Nat.reduceBEq, Int.reduceLE, Int.reduceLT, Int.reduceToNat, Int.reduceNeg, Int.reduceEq, axt, ftK, ft3, AAll, ftQ, SL, tys]
        refine ⟨(⟨C, setKd S i 0, q⟩, [] ++ [k]), Nat.lt_succ_self _, by omega, rfl, by rw [← hs]; exact hx2, by show ((many 2 (setKd S i 0) : Nat) : Int) ≤ z; rw [← hs]; exact hmS, by show (setKd S i 0).length ≤ _; rw [← hs, hlS]; exact hxl, by show ([] ++ [k]).length + q.length ≤ _; rw [List.length_append, List.length_singleton]; omega, ?_, fun id z o m e => by cases e; omega⟩
        exact Live.mk (upd_same _ _ _) rfl
      · have hs : (shrS ⟨C, S, k :: q⟩).S = S := if_neg hi
        refine ACallK.strict rfl (ca) (by simp only [SeesL, h1, h2, h4, hH, hH1, hne, hn3, e2, hi, eq_false hi, axs, axt, AS.ev, AS.put, upd, inHeap, Nat.reduceLT, Nat.reduceEqDiff, Nat.reduceAdd, Nat.reduceBEq, SL]; exact see51c00) ?_; simp (maxSteps := 400000) (dsimp := false) only [h1, h2, h4, hH, hH1, hne, hn3, e2, hi, eq_false hi, axs, axw, aresL, afill, Value.oneCell', Nat.reduceLT, Nat.reduceLeDiff, Nat.reduceEqDiff, Nat.reduceAdd, Nat.reduceMul, Nat.reduceSub, Nat.reduceBEq, Int.reduceLE, Int.reduceLT, Int.reduceToNat, Int.reduceNeg, Int.reduceEq, axt, ftK, ft3, AAll, ftQ, SL, tys]
        refine ⟨(⟨C, S, q⟩, [] ++ [k]), Nat.lt_succ_self _, by omega, rfl, by rw [← hs]; exact hx2, by show ((many 2 (S) : Nat) : Int) ≤ z; rw [← hs]; exact hmS, by show (S).length ≤ _; rw [← hs, hlS]; exact hxl, by show ([] ++ [k]).length + q.length ≤ _; rw [List.length_append, List.length_singleton]; omega, ?_, fun id z o m e => by cases e; omega⟩
        exact Live.mk (upd_same _ _ _) rfl
    · have hid2 := hid _ _ _ _ e1
      rw [U_len] at e1
      have hn4 : (¬ id = t.n ∧ ¬ t.n = id ∧ ¬ id = t.n + 1 ∧ ¬ t.n + 1 = id) ∧ (¬ id = n ∧ ¬ n = id ∧ ¬ id = n + 1 ∧ ¬ n + 1 = id) := by omega
      by_cases hi : idxK S k ≥ 0
      · obtain ⟨i, hii⟩ : ∃ i : Nat, idxK S k = i := ⟨(idxK S k).toNat, by omega⟩
        have ck := rSet S i 0 (by omega) (by omega)
        have hs : (shrS ⟨C, S, k :: q⟩).S = setKd S i 0 := by
          show (if idxK S k ≥ 0 then setKd S (idxK S k).toNat 0 else S) = _
          rw [if_pos hi, hii]; rfl
        rw [hii] at ca hi
        refine ACallK.strict rfl (ca) (by simp only [SeesL, h1, h2, h4, hH, hne, hi, eq_true hi, axs, axt, AS.ev, AS.put, upd, inHeap, Nat.reduceLT, Nat.reduceEqDiff, Nat.reduceAdd, Nat.reduceBEq, SL]; exact see51c00) ?_; simp (maxSteps := 400000) (dsimp := false) only [h1, h2, h4, hH, hne, hi, eq_true hi, axs, axw, aresL, afill, Value.oneCell', Nat.reduceLT, Nat.reduceLeDiff, Nat.reduceEqDiff, Nat.reduceAdd, Nat.reduceMul, Nat.reduceSub, Nat.reduceBEq, Int.reduceLE, Int.reduceLT, Int.reduceToNat, Int.reduceNeg, Int.reduceEq, axt, ftK, ft3, AAll, ftQ, SL, tys]
        refine ACallK.strict rfl (ck) (by simp only [SeesL, h1, h2, h4, hH, hH1, hne, hn3, e1, e2, hn4, b1, b2, U_len, axs, axt, AS.ev, AS.put, upd, inHeap, Nat.reduceLT, Nat.reduceEqDiff, Nat.reduceAdd, Nat.reduceBEq, SL]; exact see51c00) ?_; simp (maxSteps := 400000) (dsimp := false) only [h1, h2, h4, hH, hH1, hne, hn3, e1, e2, hn4, b1, b2, U_len, axs, axw, aresL, afill, Value.oneCell', Nat.reduceLT, Nat.reduceLeDiff, Nat.reduceEqDiff, Nat.reduceAdd, Nat.reduceMul, Nat.reduceSub, Nat.reduceBEq, Int.reduceLE, Int.reduceLT, Int.reduceToNat, Int.reduceNeg, Int.reduceEq, axt, ftK, ft3, AAll, ftQ, SL, tys]
        refine ⟨(⟨C, setKd S i 0, q⟩, out ++ [k]), Nat.lt_succ_self _, by omega, rfl, by rw [← hs]; exact hx2, by show ((many 2 (setKd S i 0) : Nat) : Int) ≤ z; rw [← hs]; exact hmS, by show (setKd S i 0).length ≤ _; rw [← hs, hlS]; exact hxl, by show (out ++ [k]).length + q.length ≤ _; rw [List.length_append, List.length_singleton]; omega, ?_, fun id z o m e => by cases e; omega⟩
        rw [hsn]; exact Live.mk (upd_same _ _ _) (by simp [U_len])
      · have hs : (shrS ⟨C, S, k :: q⟩).S = S := if_neg hi
        refine ACallK.strict rfl (ca) (by simp only [SeesL, h1, h2, h4, hH, hH1, hne, hn3, e1, e2, hn4, b1, b2, U_len, hi, eq_false hi, axs, axt, AS.ev, AS.put, upd, inHeap, Nat.reduceLT, Nat.reduceEqDiff, Nat.reduceAdd, Nat.reduceBEq, SL]; exact see51c00) ?_; simp (maxSteps := 400000) (dsimp := false) only [h1, h2, h4, hH, hH1, hne, hn3, e1, e2, hn4, b1, b2, U_len, hi, eq_false hi, axs, axw, aresL, afill, Value.oneCell', Nat.reduceLT, Nat.reduceLeDiff, Nat.reduceEqDiff, Nat.reduceAdd, Nat.reduceMul, Nat.reduceSub, Nat.reduceBEq, Int.reduceLE, Int.reduceLT, Int.reduceToNat, Int.reduceNeg, Int.reduceEq, axt, ftK, ft3, AAll, ftQ, SL, tys]
        refine ⟨(⟨C, S, q⟩, out ++ [k]), Nat.lt_succ_self _, by omega, rfl, by rw [← hs]; exact hx2, by show ((many 2 (S) : Nat) : Int) ≤ z; rw [← hs]; exact hmS, by show (S).length ≤ _; rw [← hs, hlS]; exact hxl, by show (out ++ [k]).length + q.length ≤ _; rw [List.length_append, List.length_singleton]; omega, ?_, fun id z o m e => by cases e; omega⟩
        rw [hsn]; exact Live.mk (upd_same _ _ _) (by simp [U_len])
  · rw [shrunk_stop hc] at hx
    subst hx
    refine ACallP.pure rfl (cm) ?_; simp (maxSteps := 400000) (dsimp := false) only [h1, h2, h4, hH, hH1, hne, U_len, w1, hc, axs, axw, aresL, afill, Value.oneCell', Nat.reduceLT, Nat.reduceLeDiff, Nat.reduceEqDiff, Nat.reduceAdd, Nat.reduceMul, Nat.reduceSub, Nat.reduceBEq, Int.reduceLE, Int.reduceLT, Int.reduceToNat, Int.reduceNeg, Int.reduceEq, axt, ftK, ft3, AAll, ftQ, SL, tys]
    refine ⟨_, rfl, Sees.tup ?_⟩
    simp only [SeesL]
    refine ⟨Sees.same (by simp [SL, noIds, noIdsL, noIdsE_IT, noIdsE_U]), Live.sees (te := 54) ?_ (noIdsE_U _), trivial⟩
    rcases hv with ⟨e1, e2⟩ | ⟨id, e1, e2⟩
    · exact .inl ⟨e1, e2⟩
    · exact .inr ⟨id, e1, (upd_ne _ _ (by have := hid _ _ _ _ e1; omega)).trans e2⟩
theorem rLKeys (s : LS) (hl : s.S.length ≤ 100000) (hq : s.Q.length ≤ 100000) : PCalls Try.prog 53 [SL s] (.lst 1 (U (liKeys s))) := by
  obtain ⟨C, S, Q⟩ := s
  simp only at hl hq
  show PCalls _ _ _ (.lst 1 (U (hotK S ++ Q)))
  refine PCalls.intro2 Try.func53 rfl rfl Try.ntmps53 Try.results53 (by simp) fun n => ?_; simp (maxSteps := 400000) (dsimp := false) only [axs, axw, aresL, afill, Value.oneCell', Nat.reduceLT, Nat.reduceLeDiff, Nat.reduceEqDiff, Nat.reduceAdd, Nat.reduceMul, Nat.reduceSub, Nat.reduceBEq, Int.reduceLE, Int.reduceLT, Int.reduceToNat, Int.reduceNeg, Int.reduceEq, axt, ftK, ft3, AAll, ftQ, SL, tys]
  refine ALoop.upto S.length (fun p t => t.t 1 = .ptr n 3 0 0 ∧ t.t 4 = .sc (.int .i64 p) ∧ n < t.n ∧ t.H n = some (.obj 46 3 [[.sc (.int .i64 C), .lst 2 (IT S), .lst 1 (U Q)]] false) ∧ Live 54 1 t.H (U (hotK (S.take p))) (t.t 3)) ⟨rfl, rfl, Nat.lt_succ_self _, upd_same _ _ _, Live.nil⟩ ?_
  rintro p t hp hb ⟨h1, h4, hlt0, hH, hv⟩
  have hnn : (¬ n = t.n ∧ ¬ t.n = n) ∧ (¬ n = t.n + 1 ∧ ¬ t.n + 1 = n) := by omega
  have hml := many_le 2 (S.take p)
  rw [List.length_take, ← hotK_len] at hml
  rcases Nat.lt_or_ge p S.length with hlt | hge
  · obtain ⟨x, hx, hp0, hpl, hw, hT, hD⟩ := idx hlt (by omega)
    have hg := IT_get hx
    have hs : U (hotK (S.take (p + 1))) = U (hotK (S.take p)) ++ (if x.2 = 2 then [[.sc (.int .u64 x.1)]] else []) := by
      rw [hT, hotK_snoc]
      split <;> simp [U]
    rw [hs]
    have b1 : ((hotK (S.take p)).length + 1) * 8 ≤ 140737488355328 := by omega
    have b2 : (hotK (S.take p)).length + 1 ≤ 1099511627776 := by omega
    generalize hotK (S.take p) = q at *
    by_cases hk : x.2 = 2
    · rw [if_pos hk]
      rcases hv.cases hb with ⟨e1, e2⟩ | ⟨id, i1, i2, e1, e2⟩
      · obtain rfl : q = [] := by simpa [U] using e1
        simp (maxSteps := 400000) (dsimp := false) only [h1, h4, hH, hp0, hpl, hg, hw, hk, e2, hnn, IT_len, axs, axw, aresL, afill, Value.oneCell', Nat.reduceLT, Nat.reduceLeDiff, Nat.reduceEqDiff, Nat.reduceAdd, Nat.reduceMul, Nat.reduceSub, Nat.reduceBEq, Int.reduceLE, Int.reduceLT, Int.reduceToNat, Int.reduceNeg, Int.reduceEq, axt, ftK, ft3, AAll, ftQ, SL, tys]
        exact ⟨hlt, by omega, Live.mk (upd_same _ _ _) rfl⟩
      · rw [U_len] at e1
        have hin : ¬ id = n ∧ ¬ n = id := by
          have : id ≠ n := by rintro rfl; rw [hH] at e2; simp at e2
          omega
        have hn4 : (¬ id = t.n ∧ ¬ t.n = id) ∧ (¬ id = t.n + 1 ∧ ¬ t.n + 1 = id) := by omega
        simp (maxSteps := 400000) (dsimp := false) only [h1, h4, hH, hp0, hpl, hg, hw, hk, e1, e2, hnn, hn4, hin, IT_len, U_len, b1, b2, axs, axw, aresL, afill, Value.oneCell', Nat.reduceLT, Nat.reduceLeDiff, Nat.reduceEqDiff, Nat.reduceAdd, Nat.reduceMul, Nat.reduceSub, Nat.reduceBEq, Int.reduceLE, Int.reduceLT, Int.reduceToNat, Int.reduceNeg, Int.reduceEq, axt, ftK, ft3, AAll, ftQ, SL, tys]
        exact ⟨hlt, by omega, Live.mk (upd_same _ _ _) (by simp [U_len])⟩
    · rw [if_neg hk, List.append_nil]
      simp (maxSteps := 400000) (dsimp := false) only [h1, h4, hH, hp0, hpl, hg, hw, hk, hnn, IT_len, axs, axw, aresL, afill, Value.oneCell', Nat.reduceLT, Nat.reduceLeDiff, Nat.reduceEqDiff, Nat.reduceAdd, Nat.reduceMul, Nat.reduceSub, Nat.reduceBEq, Int.reduceLE, Int.reduceLT, Int.reduceToNat, Int.reduceNeg, Int.reduceEq, axt, ftK, ft3, AAll, ftQ, SL, tys]
      exact ⟨hlt, hlt0, hv⟩
  · have hpl : ¬ (p : Int) < S.length := by omega
    rw [List.take_of_length_le hge] at hv hml
    have hsn : U (hotK S ++ Q) = U (hotK S) ++ U Q := by simp [U]
    generalize hotK S = q at *
    have b1 : (q.length + Q.length) * 8 ≤ 140737488355328 := by omega
    have b2 : q.length + Q.length ≤ 1099511627776 := by omega
    rcases hv.cases hb with ⟨e1, e2⟩ | ⟨id, i1, i2, e1, e2⟩
    · obtain rfl : q = [] := by simpa [U] using e1
      cases Q with
      | nil =>
        simp (maxSteps := 400000) (dsimp := false) only [h1, h4, hH, hpl, e2, hnn, U_nil, IT_len, axs, axw, aresL, afill, Value.oneCell', Nat.reduceLT, Nat.reduceLeDiff, Nat.reduceEqDiff, Nat.reduceAdd, Nat.reduceMul, Nat.reduceSub, Nat.reduceBEq, Int.reduceLE, Int.reduceLT, Int.reduceToNat, Int.reduceNeg, Int.reduceEq, axt, ftK, ft3, AAll, ftQ, SL, tys]
        exact ⟨_, rfl, Sees.none⟩
      | cons y Q =>
        have hu : U (y :: Q) = [.sc (.int .u64 y)] :: U Q := rfl
        rw [List.length_cons] at hq
        have b1 : (Q.length + 1) * 8 ≤ 140737488355328 := by omega
        have b2 : Q.length + 1 ≤ 1099511627776 := by omega
        have b3 : Q.length ≤ 1099511627775 := by omega
        simp (maxSteps := 400000) (dsimp := false) only [h1, h4, hH, hpl, e2, hnn, hu, U_len, b1, b2, b3, IT_len, axs, axw, aresL, afill, Value.oneCell', Nat.reduceLT, Nat.reduceLeDiff, Nat.reduceEqDiff, Nat.reduceAdd, Nat.reduceMul, Nat.reduceSub, Nat.reduceBEq, Int.reduceLE, Int.reduceLT, Int.reduceToNat, Int.reduceNeg, Int.reduceEq, axt, ftK, ft3, AAll, ftQ, SL, tys]
        exact ⟨_, rfl, (Live.mk (upd_same _ _ _) (by simp [U_len]) : Live 54 1 _ (U (y :: Q)) _).sees (noIdsE_U _)⟩
    · rw [U_len] at e1
      have hn4 : (¬ id = t.n ∧ ¬ t.n = id) := by omega
      simp (maxSteps := 400000) (dsimp := false) only [h1, h4, hH, hpl, e1, e2, hnn, hn4, U_len, b1, b2, IT_len, axs, axw, aresL, afill, Value.oneCell', Nat.reduceLT, Nat.reduceLeDiff, Nat.reduceEqDiff, Nat.reduceAdd, Nat.reduceMul, Nat.reduceSub, Nat.reduceBEq, Int.reduceLE, Int.reduceLT, Int.reduceToNat, Int.reduceNeg, Int.reduceEq, axt, ftK, ft3, AAll, ftQ, SL, tys]
      rw [← hsn]
      exact ⟨_, rfl, (Live.mk (upd_same _ _ _) (by simp [U_len]) : Live 54 1 _ (U (q ++ Q)) _).sees (noIdsE_U _)⟩
end Go.Al.K12
end
section
set_option linter.unusedVariables false
set_option linter.unusedSimpArgs false
namespace Go.Al.K12
/-- No key is twice; each cold item's key is in the queue, and no other item's is. -/
structure LiB (S : List (Int × Int)) (Q : List Int) : Prop where
  sn : (S.map Prod.fst).Nodup
  qn : Q.Nodup
  kd : ∀ x ∈ S, x.2 = 0 ∨ x.2 = 1 ∨ x.2 = 2
  cq : ∀ x ∈ S, x.1 ∈ Q ↔ x.2 = 1
section
variable {S S' A B : List (Int × Int)} {Q Q' : List Int} {k kd : Int}
theorem LiB.sub (h : LiB S Q) (hs : S'.Sublist S) : LiB S' Q :=
  ⟨h.sn.sublist (hs.map _), h.qn, fun x hx => h.kd x (hs.subset hx), fun x hx => h.cq x (hs.subset hx)⟩
theorem mem_hotK : k ∈ hotK S ↔ (k, 2) ∈ S := by
  unfold hotK
  simp only [List.mem_map, List.mem_filter, decide_eq_true_eq]
  constructor
  · rintro ⟨x, ⟨h1, h2⟩, rfl⟩
    rw [← h2]; exact h1
  · intro h
    exact ⟨_, ⟨h, rfl⟩, rfl⟩
theorem hotK_append (A B : List (Int × Int)) : hotK (A ++ B) = hotK A ++ hotK B := by simp [hotK]
theorem hotK_cons (x : Int × Int) (B : List (Int × Int)) : hotK (x :: B) = (if x.2 = 2 then [x.1] else []) ++ hotK B := by
  unfold hotK
  by_cases h : x.2 = 2
  · rw [if_pos h, List.filter_cons_of_pos (by simpa using h)]; rfl
  · rw [if_neg h, List.filter_cons_of_neg (by simpa using h)]; rfl
theorem hotK_nil (h : ∀ y ∈ B, y.2 ≠ 2) : hotK B = [] := by
  unfold hotK
  rw [List.filter_eq_nil_iff.2 (fun y hy => by simpa using h y hy)]; rfl
theorem hotK_sub (h : S'.Sublist S) : (hotK S').Sublist (hotK S) := (h.filter _).map _
theorem key_one (h : (S.map Prod.fst).Nodup) {x y : Int × Int} (hx : x ∈ S) (hy : y ∈ S) (e : x.1 = y.1) : x = y := by
  induction S with
  | nil => cases hx
  | cons z S ih =>
    rw [List.map_cons, List.nodup_cons] at h
    rcases List.mem_cons.1 hx with e1 | hx'
    · rcases List.mem_cons.1 hy with e2 | hy'
      · rw [e1, e2]
      · exact absurd (List.mem_map.2 ⟨y, hy', by rw [← e, e1]⟩) h.1
    · rcases List.mem_cons.1 hy with e2 | hy'
      · exact absurd (List.mem_map.2 ⟨x, hx', by rw [e, e2]⟩) h.1
      · exact ih h.2 hx' hy'
theorem idxK_hit (hi : idxK S k ≥ 0) : ∃ A x B, S = A ++ x :: B ∧ idxK S k = A.length ∧ x.1 = k ∧ ∀ y ∈ A, y.1 ≠ k := by
  rcases idxT_cases (fun x => decide (x.1 = k)) S with ⟨h, _⟩ | ⟨p, x, h, hx, ht, hq⟩
  · have h : idxK S k = -1 := h
    omega
  · have h : idxK S k = p := h
    obtain ⟨hp, e⟩ := List.getElem?_eq_some_iff.1 hx
    refine ⟨S.take p, x, S.drop (p + 1), by rw [← e, List.getElem_cons_drop, List.take_append_drop], by rw [h, List.length_take]; omega, by simpa using ht, fun y hy => ?_⟩
    obtain ⟨q, h1, h2⟩ := List.mem_iff_getElem.1 hy
    rw [List.length_take] at h1
    rw [List.getElem_take] at h2
    have := hq q y (by omega) (by rw [← h2]; exact List.getElem?_eq_getElem (by omega))
    simpa using this
theorem idxK_miss : idxK S k < 0 ↔ ∀ x ∈ S, x.1 ≠ k := by
  rcases idxT_cases (fun x => decide (x.1 = k)) S with ⟨h, h2⟩ | ⟨p, x, h, hx, ht, hq⟩
  · have h : idxK S k = -1 := h
    exact ⟨fun _ y hy => by simpa using h2 y hy, fun _ => by omega⟩
  · have h : idxK S k = p := h
    exact ⟨fun h => by omega, fun h => absurd (by simpa using ht) (h x (List.mem_of_getElem? hx))⟩
/-- A stack without a key. -/
theorem remK_filter (h : (S.map Prod.fst).Nodup) (k : Int) : remK S k = S.filter fun x => decide (x.1 ≠ k) := by
  unfold remK takeP
  by_cases hi : idxK S k < 0
  · rw [if_pos hi]
    rw [List.filter_eq_self.2]
    intro x hx
    simpa using idxK_miss.1 hi x hx
  · rw [if_neg hi]
    obtain ⟨A, x, B, h1, h2, h3, h4⟩ := idxK_hit (S := S) (k := k) (by omega)
    rw [h2, show ((A.length : Nat) : Int).toNat = A.length from rfl, h1, List.eraseIdx_append_of_length_le (Nat.le_refl _), Nat.sub_self]
    rw [h1, List.map_append, List.map_cons, List.nodup_append, List.nodup_cons] at h
    rw [List.filter_append, List.filter_cons_of_neg (by simp [h3]), List.filter_eq_self.2 (fun y hy => by simpa using h4 y hy), List.filter_eq_self.2]
    · rfl
    · intro y hy
      have := h.2.1.1
      simp only [decide_eq_true_eq]
      intro e
      exact this (List.mem_map.2 ⟨y, hy, by rw [e, h3]⟩)
theorem mem_remK (h : (S.map Prod.fst).Nodup) {x : Int × Int} : x ∈ remK S k ↔ x ∈ S ∧ x.1 ≠ k := by rw [remK_filter h, List.mem_filter]; simp
theorem remK_sub (S : List (Int × Int)) (k : Int) : (remK S k).Sublist S := by
  unfold remK takeP
  split
  · exact List.Sublist.refl _
  · exact List.eraseIdx_sublist ..
theorem hotK_remK (h : (S.map Prod.fst).Nodup) (k : Int) : hotK (remK S k) = without (hotK S) k := by
  rw [remK_filter h]
  unfold hotK without
  rw [List.filter_map, List.filter_filter, List.filter_filter]
  congr 1
  apply List.filter_congr
  intro x hx
  simp [Bool.and_comm]
theorem many_sub (h : S'.Sublist S) (j : Int) : many j S' ≤ many j S := (h.filter _).length_le
/-- A key is put first. -/
theorem LiB.put (h : LiB S Q) (k : Int) {kd : Int} (hk : kd = 1 ∨ kd = 2) (hq : Q'.Nodup) (ho : ∀ x, x ≠ k → (x ∈ Q' ↔ x ∈ Q)) (hm : k ∈ Q' ↔ kd = 1) : LiB ((k, kd) :: remK S k) Q' := by
  refine ⟨?_, hq, ?_, ?_⟩
  · rw [List.map_cons, List.nodup_cons]
    refine ⟨?_, (h.sub (remK_sub S k)).sn⟩
    intro hm
    obtain ⟨x, hx, e⟩ := List.mem_map.1 hm
    exact ((mem_remK h.sn).1 hx).2 e
  · intro x hx
    rcases List.mem_cons.1 hx with rfl | hx
    · rcases hk with rfl | rfl
      · exact .inr (.inl rfl)
      · exact .inr (.inr rfl)
    · exact h.kd x ((remK_sub S k).subset hx)
  · intro x hx
    rcases List.mem_cons.1 hx with rfl | hx
    · exact hm
    · obtain ⟨h1, h2⟩ := (mem_remK h.sn).1 hx
      rw [ho _ h2]
      exact h.cq x h1
theorem LiB.hot_out (h : LiB S Q) (hk : k ∈ hotK S) : k ∉ Q := fun hq => by
  have : (2 : Int) = 1 := (h.cq _ (mem_hotK.1 hk)).1 hq
  omega
theorem LiB.hot_nodup (h : LiB S Q) : (hotK S).Nodup := (h.sn).sublist ((List.filter_sublist).map _)
theorem LiB.keys (h : LiB S Q) : (hotK S ++ Q).Nodup := by
  rw [List.nodup_append]
  refine ⟨h.hot_nodup, h.qn, fun a ha b hb e => ?_⟩
  subst e
  exact h.hot_out ha hb
theorem pruned_sub (S : List (Int × Int)) : (pruned S).Sublist S := List.take_sublist _ _
theorem hotK_pruned (S : List (Int × Int)) : hotK (pruned S) = hotK S := by
  unfold pruned
  rcases upTo_spec (k := 2) S with ⟨h1, h2⟩ | ⟨A, x, B, h1, h2, h3, h4⟩
  · rw [h1, List.take_zero, hotK_nil h2]; rfl
  · rw [h2]
    have e : S.take (A.length + 1) = A ++ [x] := by
      rw [h1, show A ++ x :: B = (A ++ [x]) ++ B by simp, List.take_left' (by simp)]
    rw [e]
    conv => rhs; rw [h1, show A ++ x :: B = (A ++ [x]) ++ B by simp, hotK_append, hotK_nil h4, List.append_nil]
/-- The last one is hot, if there is one. -/
def HotEnd (S : List (Int × Int)) : Prop := ∀ x, S.getLast? = some x → x.2 = 2
theorem hotEnd_pruned (S : List (Int × Int)) : HotEnd (pruned S) := by
  unfold pruned
  rcases upTo_spec (k := 2) S with ⟨h1, h2⟩ | ⟨A, x, B, h1, h2, h3, h4⟩
  · rw [h1, List.take_zero]
    intro x hx
    cases hx
  · rw [h2]
    have e : S.take (A.length + 1) = A ++ [x] := by
      rw [h1, show A ++ x :: B = (A ++ [x]) ++ B by simp, List.take_left' (by simp)]
    rw [e]
    intro y hy
    rw [List.getLast?_append, List.getLast?_singleton] at hy
    cases hy
    exact h3
end
end Go.Al.K12
end
section
set_option linter.unusedVariables false
set_option linter.unusedSimpArgs false
namespace Go.Al.K12
theorem liKeys_len (s : LS) : (liKeys s).length = many 2 s.S + s.Q.length := by unfold liKeys; rw [List.length_append, hotK_len]
section
variable {S A B : List (Int × Int)} {Q q : List Int} {k kd : Int} {x : Int × Int}
/-- An item is of another kind. -/
theorem LiB.set (h : LiB (A ++ x :: B) Q) {kd : Int} (hk : kd = 0 ∨ kd = 1 ∨ kd = 2) {q : List Int} (hq : q.Nodup) (ho : ∀ y, y ≠ x.1 → (y ∈ q ↔ y ∈ Q)) (hm : x.1 ∈ q ↔ kd = 1) : LiB (A ++ (x.1, kd) :: B) q := by
  have hn := h.sn
  have hn2 := hn
  rw [List.map_append, List.map_cons, List.nodup_append, List.nodup_cons] at hn2
  have ha : ∀ y ∈ A, y.1 ≠ x.1 := fun y hy e => hn2.2.2 y.1 (List.mem_map.2 ⟨y, hy, rfl⟩) x.1 List.mem_cons_self e
  have hb : ∀ y ∈ B, y.1 ≠ x.1 := fun y hy e => hn2.2.1.1 (List.mem_map.2 ⟨y, hy, e⟩)
  refine ⟨?_, hq, fun y hy => ?_, fun y hy => ?_⟩
  · rw [List.map_append, List.map_cons] at hn ⊢
    exact hn
  · rcases List.mem_append.1 hy with hy | hy
    · exact h.kd y (List.mem_append_left _ hy)
    · rcases List.mem_cons.1 hy with rfl | hy
      · exact hk
      · exact h.kd y (List.mem_append_right _ (List.mem_cons_of_mem _ hy))
  · rcases List.mem_append.1 hy with hy | hy
    · rw [ho _ (ha y hy)]
      exact h.cq y (List.mem_append_left _ hy)
    · rcases List.mem_cons.1 hy with rfl | hy
      · exact hm
      · rw [ho _ (hb y hy)]
        exact h.cq y (List.mem_append_right _ (List.mem_cons_of_mem _ hy))
end
theorem lastQ_new {Q : List Int} {k : Int} (h : k ∉ Q) : lastQ Q k = Q ++ [k] := by unfold lastQ; rw [without_same h]
theorem lastQ_nodup {Q : List Int} (k : Int) (h : Q.Nodup) : (lastQ Q k).Nodup := by
  unfold lastQ
  rw [List.nodup_append]
  refine ⟨without_nodup k h, (by simp), fun a ha b hb e => ?_⟩
  rw [List.mem_singleton] at hb
  exact (mem_without.1 ha).2 (e.trans hb)
theorem mem_lastQ {Q : List Int} {k y : Int} (h : y ≠ k) : y ∈ lastQ Q k ↔ y ∈ Q := by
  unfold lastQ
  rw [List.mem_append, mem_without, List.mem_singleton]
  exact ⟨fun h2 => by rcases h2 with h2 | h2; exact h2.1; exact absurd h2 h, fun h2 => .inl ⟨h2, h⟩⟩
theorem self_lastQ (Q : List Int) (k : Int) : k ∈ lastQ Q k := by unfold lastQ; simp
/-- The last hot one, taken apart. -/
theorem coolS_at {s : LS} (h : LiB s.S s.Q) (h0 : 0 < many 2 s.S) : ∃ A x B, s.S = A ++ x :: B ∧ upTo 2 s.S = A.length + 1 ∧ x.2 = 2 ∧ (∀ y ∈ B, y.2 ≠ 2) ∧ x.1 ∉ s.Q ∧ coolS s = ⟨s.C, pruned (A ++ (x.1, 1) :: B), s.Q ++ [x.1]⟩ := by
  obtain ⟨A, x, B, h1, h2, h3, h4⟩ := last_of h0
  have hx : x.1 ∉ s.Q := fun hq => by
    have := (h.cq x (by rw [h1]; simp)).1 hq
    omega
  refine ⟨A, x, B, h1, h2, h3, h4, hx, ?_⟩
  have hd : s.S.getD (upTo 2 s.S - 1) (0, 0) = x := by
    rw [h2, Nat.add_sub_cancel, List.getD_eq_getElem?_getD]
    conv => lhs; rw [h1]
    rw [List.getElem?_append_right (Nat.le_refl _), Nat.sub_self]; rfl
  unfold coolS
  rw [hd, lastQ_new hx, h2, Nat.add_sub_cancel]
  conv => lhs; rw [h1, setKd_at]
theorem coolS_ok {s : LS} (h : LiB s.S s.Q) (h0 : 0 < many 2 s.S) : LiB (coolS s).S (coolS s).Q ∧ (liKeys (coolS s)).Perm (liKeys s) ∧ many 0 (coolS s).S ≤ many 0 s.S := by
  obtain ⟨A, x, B, h1, h2, h3, h4, h5, h6⟩ := coolS_at h h0
  rw [h6]
  have h7 := lastQ_new h5
  refine ⟨?_, ?_, ?_⟩
  · refine LiB.sub ?_ (pruned_sub _)
    rw [h1] at h
    refine h.set (.inr (.inl rfl)) ?_ ?_ ?_
    · rw [← h7]; exact lastQ_nodup _ h.qn
    · intro y hy
      rw [← h7]; exact mem_lastQ hy
    · exact ⟨fun _ => rfl, fun _ => by simp⟩
  · unfold liKeys
    simp only
    rw [hotK_pruned, h1, hotK_append, hotK_append, hotK_cons, hotK_cons, if_pos h3, if_neg (by simp), hotK_nil h4, List.nil_append, List.append_nil, List.append_nil, List.append_assoc]
    exact List.perm_append_comm.append_left _
  · show many 0 (pruned _) ≤ _
    refine Nat.le_trans (many_sub (pruned_sub _) 0) ?_
    rw [h1, many_append, many_append, many_cons, many_cons, if_neg (by simp), if_neg (by omega)]
    exact Nat.le_refl _
theorem cooled_ok : ∀ (m : Nat) (s : LS), 1 ≤ s.C → LiB s.S s.Q → LiB (cooled m s).S (cooled m s).Q ∧ (liKeys (cooled m s)).Perm (liKeys s) ∧ many 0 (cooled m s).S ≤ many 0 s.S
  | 0, s, h, hb => ⟨hb, List.Perm.refl _, Nat.le_refl _⟩
  | m + 1, s, h, hb => by
    unfold cooled
    split
    · rename_i hc
      have hr := (roomOf_le h).1
      obtain ⟨a1, a2, a3⟩ := coolS_ok hb (by omega)
      obtain ⟨b1, b2, b3⟩ := cooled_ok m (coolS s) h a1
      exact ⟨b1, b2.trans a2, Nat.le_trans b3 a3⟩
    · exact ⟨hb, List.Perm.refl _, Nat.le_refl _⟩
theorem coolL_ok {s : LS} (h : 1 ≤ s.C) (hb : LiB s.S s.Q) : LiB (coolL s).S (coolL s).Q ∧ (liKeys (coolL s)).Perm (liKeys s) ∧ many 0 (coolL s).S ≤ many 0 s.S := cooled_ok _ s h hb
theorem shrS_ok {C k : Int} {S : List (Int × Int)} {q : List Int} (h : LiB S (k :: q)) : LiB (shrS ⟨C, S, k :: q⟩).S q ∧ hotK (shrS ⟨C, S, k :: q⟩).S = hotK S := by
  have hn := List.nodup_cons.1 h.qn
  have ho : ∀ y, y ≠ k → (y ∈ q ↔ y ∈ k :: q) := fun y hy => ⟨fun h => List.mem_cons_of_mem _ h, fun h => (List.mem_cons.1 h).resolve_left hy⟩
  show LiB (if idxK S k ≥ 0 then setKd S (idxK S k).toNat 0 else S) q ∧ hotK (if idxK S k ≥ 0 then setKd S (idxK S k).toNat 0 else S) = _
  by_cases hi : idxK S k ≥ 0
  · rw [if_pos hi]
    obtain ⟨A, x, B, h1, h2, h3, h4⟩ := idxK_hit hi
    have hx : x.2 = 1 := (h.cq x (by rw [h1]; simp)).1 (by rw [h3]; simp)
    rw [h2, show ((A.length : Nat) : Int).toNat = A.length from rfl]
    subst h1
    rw [setKd_at]
    refine ⟨h.set (.inl rfl) hn.2 (by rw [h3]; exact ho) (by rw [h3]; exact ⟨fun e => absurd e hn.1, fun e => by omega⟩), ?_⟩
    rw [hotK_append, hotK_append, hotK_cons, hotK_cons, if_neg (by simp), if_neg (by omega)]
  · rw [if_neg hi]
    have hm := idxK_miss.1 (show idxK S k < 0 by omega)
    exact ⟨⟨h.sn, hn.2, h.kd, fun x hx => (ho _ (hm x hx)).trans (h.cq x hx)⟩, rfl⟩
theorem shrunk_ok {z : Int} : ∀ (m : Nat) (s : LS) (out : List Int), LiB s.S s.Q → (many 2 s.S : Int) ≤ z → s.Q.length ≤ m → LiB (shrunk z m s out).1.S (shrunk z m s out).1.Q ∧ hotK (shrunk z m s out).1.S = hotK s.S ∧ ((shrunk z m s out).2 ++ liKeys (shrunk z m s out).1).Perm (out ++ liKeys s) ∧ ((shrunk z m s out).2.length : Int) = out.length + max ((many 2 s.S : Int) + s.Q.length - z) 0
  | 0, s, out, h, hz, hq => ⟨h, rfl, List.Perm.refl _, by show (out.length : Int) = _; omega⟩
  | m + 1, s, out, h, hz, hq => by
    unfold shrunk
    split
    · rename_i hc
      obtain ⟨C, S, Q⟩ := s
      simp only at h hz hq hc
      cases Q with
      | nil => simp at hc; omega
      | cons k q =>
        obtain ⟨a1, a2⟩ := shrS_ok (C := C) h
        have hm2 : many 2 (shrS ⟨C, S, k :: q⟩).S = many 2 S := by rw [← hotK_len, a2, hotK_len]
        rw [List.length_cons] at hq hc
        obtain ⟨b1, b2, b3, b4⟩ := shrunk_ok m (shrS ⟨C, S, k :: q⟩) (out ++ [k]) a1 (by rw [hm2]; exact hz) (by show q.length ≤ m; omega)
        refine ⟨b1, b2.trans a2, b3.trans ?_, b4.trans ?_⟩
        · unfold liKeys
          rw [a2]
          show ((out ++ [k]) ++ (hotK S ++ q)).Perm (out ++ (hotK S ++ k :: q))
          rw [List.append_assoc]
          refine List.Perm.append_left _ ?_
          exact (List.perm_middle (l₁ := hotK S)).symm
        · rw [hm2, List.length_append, List.length_singleton]
          show ((out.length + 1 : Nat) : Int) + max ((many 2 S : Int) + q.length - z) 0 = _
          simp only [List.length_cons]
          omega
    · exact ⟨h, rfl, List.Perm.refl _, by show (out.length : Int) = _; omega⟩
theorem shrinkL_ok {z : Int} {s : LS} (h : LiB s.S s.Q) (hz : (many 2 s.S : Int) ≤ z) : LiB (shrinkL z s).1.S (shrinkL z s).1.Q ∧ hotK (shrinkL z s).1.S = hotK s.S ∧ ((shrinkL z s).2 ++ liKeys (shrinkL z s).1).Perm (liKeys s) ∧ ((shrinkL z s).2.length : Int) = max ((many 2 s.S : Int) + s.Q.length - z) 0 := by
  obtain ⟨a, b, c, d⟩ := shrunk_ok (z := z) s.Q.length s [] h hz (Nat.le_refl _)
  exact ⟨a, b, c, by unfold shrinkL; simpa using d⟩
theorem hotEnd_cut {A B : List (Int × Int)} {x : Int × Int} (hx : x.2 ≠ 2) (h : HotEnd (A ++ x :: B)) : HotEnd (A ++ B) := by
  cases hB : B with
  | nil =>
    exfalso
    rw [hB] at h
    exact hx (h x (by simp))
  | cons y C =>
    intro z hz
    refine h z ?_
    rw [← hB] at hz
    rw [List.getLast?_append] at hz ⊢
    rw [List.getLast?_cons, hB] 
    rw [hB] at hz
    rw [List.getLast?_cons] at hz ⊢
    simpa using hz
theorem forgot_ok : ∀ (m : Nat) (s : LS), 0 ≤ s.C → LiB s.S s.Q → many 0 s.S ≤ m → HotEnd s.S → LiB (forgot m s).S (forgot m s).Q ∧ hotK (forgot m s).S = hotK s.S ∧ (many 0 (forgot m s).S : Int) ≤ s.C ∧ HotEnd (forgot m s).S
  | 0, s, c, h, hm, he => ⟨h, rfl, by show (many 0 s.S : Int) ≤ _; omega, he⟩
  | m + 1, s, c, h, hm, he => by
    unfold forgot
    split
    · rename_i hc
      obtain ⟨n1, A, x, B, d1, d2, d3⟩ := take_last (k := 0) (S := s.S) (by omega)
      have hx : x.2 ≠ 2 := by omega
      have hsub : (takeP s.S ((upTo 0 s.S : Int) - 1)).Sublist s.S := by
        rw [d2]
        conv => rhs; rw [d1]
        exact (List.sublist_cons_self x B).append_left A
      have hh : hotK (takeP s.S ((upTo 0 s.S : Int) - 1)) = hotK s.S := by
        rw [d2]
        conv => rhs; rw [d1]
        rw [hotK_append, hotK_append, hotK_cons, if_neg hx, List.nil_append]
      have he2 : HotEnd (takeP s.S ((upTo 0 s.S : Int) - 1)) := by
        rw [d2]
        rw [d1] at he
        exact hotEnd_cut hx he
      obtain ⟨b1, b2, b3, b4⟩ := forgot_ok m ⟨s.C, takeP s.S ((upTo 0 s.S : Int) - 1), s.Q⟩ c (h.sub hsub) (by show many 0 (takeP _ _) ≤ m; omega) he2
      exact ⟨b1, b2.trans hh, b3, b4⟩
    · exact ⟨h, rfl, by omega, he⟩
theorem forgetL_ok {s : LS} (c : 0 ≤ s.C) (h : LiB s.S s.Q) (he : HotEnd s.S) : LiB (forgetL s).S (forgetL s).Q ∧ hotK (forgetL s).S = hotK s.S ∧ (many 0 (forgetL s).S : Int) ≤ s.C ∧ HotEnd (forgetL s).S ∧ (forgetL s).C = s.C ∧ (forgetL s).Q = s.Q := by
  obtain ⟨a, b, d, e⟩ := forgot_ok (many 0 s.S) s c h (Nat.le_refl _) he
  obtain ⟨f1, f2, f3⟩ := forgot_facts (many 0 s.S) s
  exact ⟨a, b, d, e, f1, f3⟩
end Go.Al.K12
end
