/- A cache of any policy, by the reference: keys that were evicted are taken out. Conditions: the rows are short. -/
import Derived.Test.YtkoimgeckkodhaaMp1
set_option linter.unusedVariables false
set_option linter.unusedSimpArgs false
set_option maxRecDepth 20000
set_option maxHeartbeats 3200000
-- axs, axw, aresL, afill, Value.oneCell', Nat.reduceLT, Nat.reduceLeDiff, Nat.reduceEqDiff, Nat.reduceAdd, Nat.reduceMul, Nat.reduceSub, Nat.reduceBEq, Int.reduceLE, Int.reduceLT, Int.reduceToNat, Int.reduceNeg, Int.reduceEq, axt, ftK, ft3, AAll, ftQ, ST, tys: ST
-- NOIDS: noIdsE_PR, NV.ok'
-- LENS: PR_len
namespace Go.Al
open Go.Proofs
/-- A key is taken out: the pairs, and those that went. -/
def goS (r : List (Int × Int) × List (Int × Int)) (k : Int) : List (Int × Int) × List (Int × Int) := (remP r.1 k, r.2 ++ [(k, valK r.1 k)])
def goA (P : List (Int × Int)) (ks : List Int) : List (Int × Int) × List (Int × Int) := ks.foldl goS (P, [])
theorem goA_snoc (P : List (Int × Int)) (ks : List Int) (k : Int) : goA P (ks ++ [k]) = (remP (goA P ks).1 k, (goA P ks).2 ++ [(k, valK (goA P ks).1 k)]) := by simp [goA, goS]
theorem goA_len (P : List (Int × Int)) (ks : List Int) : (goA P ks).1.length ≤ P.length ∧ (goA P ks).2.length = ks.length := by
  have gen : ∀ (ks : List Int) (r : List (Int × Int) × List (Int × Int)), (ks.foldl goS r).1.length ≤ r.1.length ∧ (ks.foldl goS r).2.length = r.2.length + ks.length := by
    intro ks
    induction ks with
    | nil => intro r; exact ⟨Nat.le_refl _, by simp⟩
    | cons k ks ih =>
      intro r
      obtain ⟨h1, h2⟩ := ih (goS r k)
      have h3 := remP_len r.1 k
      refine ⟨Nat.le_trans h1 h3, ?_⟩
      rw [List.foldl_cons, h2]
      simp [goS]
      omega
  have := gen ks (P, [])
  exact ⟨this.1, by rw [show (goA P ks).2.length = _ from this.2]; simp⟩
theorem rGone (p : Int) (x : X19) (P : List (Int × Int)) (h m e : Int) (ks : List Int) (hP : P.length ≤ 10000) (hk : ks.length ≤ 10000) :
    PCalls Try.prog 40 [ST p x P h m e, .lst 1 (U ks)] (.tup [ST p x (goA P ks).1 h m (IntKind.i64.wrap (e + ks.length)), .lst 2 (PR (goA P ks).2)]) := by
  refine PCalls.intro2 Try.func40 rfl rfl Try.ntmps40 Try.results40 (by simp) fun n => ?_; simp (maxSteps := 400000) (dsimp := false) only [axs, axw, aresL, afill, Value.oneCell', Nat.reduceLT, Nat.reduceLeDiff, Nat.reduceEqDiff, Nat.reduceAdd, Nat.reduceMul, Nat.reduceSub, Nat.reduceBEq, Int.reduceLE, Int.reduceLT, Int.reduceToNat, Int.reduceNeg, Int.reduceEq, axt, ftK, ft3, AAll, ftQ, ST, tys]
  refine ALoop.upto ks.length (fun i s => s.t 1 = .lst 1 (U ks) ∧ s.t 2 = .ptr n 24 0 0 ∧ s.t 4 = .ptr (n + 1) 24 0 0 ∧ s.t 7 = .sc (.int .i64 i) ∧ n + 1 < s.n ∧ s.H n = some (.obj 50 24 [[.sc (.int .i64 p), x.a1.v, x.a2.v, x.a3.v, x.a4.v, x.a5.v, x.a6.v, x.a7.v, x.a8.v, x.a9.v, x.a10.v, x.a11.v, x.a12.v, x.a13.v, x.a14.v, x.a15.v, x.a16.v, x.a17.v, x.a18.v, x.a19.v, .lst 2 (PR (goA P (ks.take i)).1), .sc (.int .i64 h), .sc (.int .i64 m), .sc (.int .i64 e)]] false) ∧ (∃ es, es.length = 24 ∧ s.H (n + 1) = some (.obj 50 24 [es] false)) ∧ Live 56 2 s.H (PR (goA P (ks.take i)).2) (s.t 6) ∧ ∀ id z o m, s.t 6 = .sl id z o m → n + 1 < id) ⟨rfl, rfl, rfl, rfl, (by show n + 1 < n + 1 + 1; omega), (upd_ne _ _ (by omega)).trans (upd_same _ _ _), ⟨_, rfl, upd_same _ _ _⟩, Live.nil, fun id z o m e => (nomatch e)⟩ ?_
  rintro i s hi hb ⟨h1, h2, h4, h7, hlt0, hH, ⟨es, hes, hH1⟩, hv, hid⟩
  obtain ⟨l1, l2⟩ := goA_len P (ks.take i)
  rw [List.length_take] at l2
  have hne : ¬ n = n + 1 ∧ ¬ n + 1 = n := by omega
  have hn3 : (¬ n = s.n ∧ ¬ n + 1 = s.n ∧ ¬ s.n = n ∧ ¬ s.n = n + 1) ∧ (¬ n = s.n + 1 ∧ ¬ n + 1 = s.n + 1 ∧ ¬ s.n + 1 = n ∧ ¬ s.n + 1 = n + 1) := by omega
  rcases Nat.lt_or_ge i ks.length with hlt | hge
  · obtain ⟨k, hx, hp0, hpl, hw, hT, hD⟩ := idx hlt (by omega)
    have hg := U_get hx
    rw [hT, goA_snoc]
    generalize goA P (ks.take i) = R at *
    obtain ⟨Q, O⟩ := R
    simp only at hH hv l1 l2 ⊢
    have cv := rValue Q k (by omega)
    have cr := rRemP Q k (by omega)
    rw [PR_snoc]
    generalize valK Q k = v at *
    generalize remP Q k = Q2 at *
    have b1 : (O.length + 1) * 16 ≤ 140737488355328 := by omega
    have b2 : O.length + 1 ≤ 1099511627776 := by omega
    rcases hv.cases hb with ⟨e1, e2⟩ | ⟨id, i1, i2, e1, e2⟩
    · obtain rfl := PR_nil e1
      simp (maxSteps := 400000) (dsimp := false) only [h1, h2, h4, h7, hpl, U_len, axs, axw, aresL, afill, Value.oneCell', Nat.reduceLT, Nat.reduceLeDiff, Nat.reduceEqDiff, Nat.reduceAdd, Nat.reduceMul, Nat.reduceSub, Nat.reduceBEq, Int.reduceLE, Int.reduceLT, Int.reduceToNat, Int.reduceNeg, Int.reduceEq, axt, ftK, ft3, AAll, ftQ, ST, tys]
      refine ADraw.planR [] [(0, true), (1, true), (2, true), (3, true), (4, true), (5, true), (6, true), (7, true), (8, true), (9, true), (10, true), (11, true), (12, true), (13, true), (14, true), (15, true)] [(0, false), (0, false), (0, false), (0, false), (0, false), (0, false), (0, false), (0, false), (0, false), (0, false), (0, false), (0, false), (0, false), (0, false), (0, false), (0, false)] mixed (by kernel_rfl) (by kernel_rfl) ?_
      simp (maxSteps := 400000) (dsimp := false) only [h1, h2, h4, h7, hH, hg, hp0, U_len, axs, axw, aresL, afill, Value.oneCell', Nat.reduceLT, Nat.reduceLeDiff, Nat.reduceEqDiff, Nat.reduceAdd, Nat.reduceMul, Nat.reduceSub, Nat.reduceBEq, Int.reduceLE, Int.reduceLT, Int.reduceToNat, Int.reduceNeg, Int.reduceEq, axt, ftK, ft3, AAll, ftQ, ST, tys]
      refine ACallP.pure rfl (cv) ?_; simp (maxSteps := 400000) (dsimp := false) only [h1, h2, h4, h7, hH, e2, hn3, axs, axw, aresL, afill, Value.oneCell', Nat.reduceLT, Nat.reduceLeDiff, Nat.reduceEqDiff, Nat.reduceAdd, Nat.reduceMul, Nat.reduceSub, Nat.reduceBEq, Int.reduceLE, Int.reduceLT, Int.reduceToNat, Int.reduceNeg, Int.reduceEq, axt, ftK, ft3, AAll, ftQ, ST, tys]
      refine ADraw.planR [] [(0, true), (1, true), (2, true), (3, true), (4, true), (5, true), (6, true), (7, true), (8, true)] [(0, false), (0, false), (0, false), (0, false), (0, false), (0, false), (0, false), (0, false), (0, false)] mixed (by kernel_rfl) (by kernel_rfl) ?_
      simp (maxSteps := 400000) (dsimp := false) only [h1, h2, h4, h7, hH, hg, hp0, U_len, hn3, axs, axw, aresL, afill, Value.oneCell', Nat.reduceLT, Nat.reduceLeDiff, Nat.reduceEqDiff, Nat.reduceAdd, Nat.reduceMul, Nat.reduceSub, Nat.reduceBEq, Int.reduceLE, Int.reduceLT, Int.reduceToNat, Int.reduceNeg, Int.reduceEq, axt, ftK, ft3, AAll, ftQ, ST, tys]
      refine ACallP.pure rfl (cr) ?_; simp (maxSteps := 400000) (dsimp := false) only [h1, h2, h4, h7, hH, hH1, hn3, hne, hw, axs, axw, aresL, afill, Value.oneCell', Nat.reduceLT, Nat.reduceLeDiff, Nat.reduceEqDiff, Nat.reduceAdd, Nat.reduceMul, Nat.reduceSub, Nat.reduceBEq, Int.reduceLE, Int.reduceLT, Int.reduceToNat, Int.reduceNeg, Int.reduceEq, axt, ftK, ft3, AAll, ftQ, ST, tys]
      exact ⟨hlt, by omega, ⟨es, hes, by simp [upd, hn3, hne, hH1]⟩, Live.mk (by simp [upd, hn3]; rfl) rfl, fun id z o m e => by cases e; omega⟩
    · have hid2 := hid _ _ _ _ e1
      rw [PR_len] at e1
      have hn4 : (¬ id = s.n ∧ ¬ s.n = id ∧ ¬ id = s.n + 1 ∧ ¬ s.n + 1 = id) ∧ (¬ id = n ∧ ¬ n = id ∧ ¬ id = n + 1 ∧ ¬ n + 1 = id) := by omega
      simp (maxSteps := 400000) (dsimp := false) only [h1, h2, h4, h7, hpl, U_len, axs, axw, aresL, afill, Value.oneCell', Nat.reduceLT, Nat.reduceLeDiff, Nat.reduceEqDiff, Nat.reduceAdd, Nat.reduceMul, Nat.reduceSub, Nat.reduceBEq, Int.reduceLE, Int.reduceLT, Int.reduceToNat, Int.reduceNeg, Int.reduceEq, axt, ftK, ft3, AAll, ftQ, ST, tys]
      refine ADraw.planR [] [(0, true), (1, true), (2, true), (3, true), (4, true), (5, true), (6, true), (7, true), (8, true), (9, true), (10, true), (11, true), (12, true), (13, true), (14, true), (15, true)] [(0, false), (0, false), (0, false), (0, false), (0, false), (0, false), (0, false), (0, false), (0, false), (0, false), (0, false), (0, false), (0, false), (0, false), (0, false), (0, false)] mixed (by kernel_rfl) (by kernel_rfl) ?_
      simp (maxSteps := 400000) (dsimp := false) only [h1, h2, h4, h7, hH, hg, hp0, U_len, axs, axw, aresL, afill, Value.oneCell', Nat.reduceLT, Nat.reduceLeDiff, Nat.reduceEqDiff, Nat.reduceAdd, Nat.reduceMul, Nat.reduceSub, Nat.reduceBEq, Int.reduceLE, Int.reduceLT, Int.reduceToNat, Int.reduceNeg, Int.reduceEq, axt, ftK, ft3, AAll, ftQ, ST, tys]
      refine ACallP.pure rfl (cv) ?_; simp (maxSteps := 400000) (dsimp := false) only [h1, h2, h4, h7, hH, e1, e2, hn3, hn4, b1, b2, PR_len, axs, axw, aresL, afill, Value.oneCell', Nat.reduceLT, Nat.reduceLeDiff, Nat.reduceEqDiff, Nat.reduceAdd, Nat.reduceMul, Nat.reduceSub, Nat.reduceBEq, Int.reduceLE, Int.reduceLT, Int.reduceToNat, Int.reduceNeg, Int.reduceEq, axt, ftK, ft3, AAll, ftQ, ST, tys]
      refine ADraw.planR [] [(0, true), (1, true), (2, true), (3, true), (4, true), (5, true), (6, true), (7, true), (8, true)] [(0, false), (0, false), (0, false), (0, false), (0, false), (0, false), (0, false), (0, false), (0, false)] mixed (by kernel_rfl) (by kernel_rfl) ?_
      simp (maxSteps := 400000) (dsimp := false) only [h1, h2, h4, h7, hH, hg, hp0, U_len, hn3, hn4, axs, axw, aresL, afill, Value.oneCell', Nat.reduceLT, Nat.reduceLeDiff, Nat.reduceEqDiff, Nat.reduceAdd, Nat.reduceMul, Nat.reduceSub, Nat.reduceBEq, Int.reduceLE, Int.reduceLT, Int.reduceToNat, Int.reduceNeg, Int.reduceEq, axt, ftK, ft3, AAll, ftQ, ST, tys]
      refine ACallP.pure rfl (cr) ?_; simp (maxSteps := 400000) (dsimp := false) only [h1, h2, h4, h7, hH, hH1, hn3, hn4, hne, hw, axs, axw, aresL, afill, Value.oneCell', Nat.reduceLT, Nat.reduceLeDiff, Nat.reduceEqDiff, Nat.reduceAdd, Nat.reduceMul, Nat.reduceSub, Nat.reduceBEq, Int.reduceLE, Int.reduceLT, Int.reduceToNat, Int.reduceNeg, Int.reduceEq, axt, ftK, ft3, AAll, ftQ, ST, tys]
      exact ⟨hlt, by omega, ⟨es, hes, by simp [upd, hn3, hn4, hne, hH1]⟩, Live.mk (by simp [upd, hn3, hn4]) (by simp [PR_len]), fun id z o m e => by cases e; omega⟩
  · have hpl : ¬ (i : Int) < ks.length := by omega
    have hik : i = ks.length := by omega
    rw [List.take_of_length_le hge] at hH hv l2 l1
    rw [hik, Nat.min_self] at l2
    have hdr : List.drop 24 es = [] := List.drop_of_length_le (by omega)
    generalize goA P ks = R at *
    obtain ⟨Q, O⟩ := R
    simp only at hH hv l1 l2 ⊢
    rcases hv with ⟨e1, e2⟩ | ⟨id, e1, e2⟩
    · obtain rfl := PR_nil e1
      simp only [List.length_nil] at l2
      rw [← l2]
      simp (maxSteps := 400000) (dsimp := false) only [h1, h2, h4, h7, hpl, hH, hH1, e2, hne, hdr, List.append_nil, U_len, axs, axw, aresL, afill, Value.oneCell', Nat.reduceLT, Nat.reduceLeDiff, Nat.reduceEqDiff, Nat.reduceAdd, Nat.reduceMul, Nat.reduceSub, Nat.reduceBEq, Int.reduceLE, Int.reduceLT, Int.reduceToNat, Int.reduceNeg, Int.reduceEq, axt, ftK, ft3, AAll, ftQ, ST, tys]
      refine ⟨_, rfl, Sees.tup ?_⟩
      simp only [SeesL]
      exact ⟨Sees.same (by simp [noIds, noIdsL, noIdsE_PR, NV.ok']), Sees.none, trivial⟩
    · rw [PR_len] at e1
      rw [← l2]
      simp (maxSteps := 400000) (dsimp := false) only [h1, h2, h4, h7, hpl, hH, hH1, e1, hne, hdr, List.append_nil, U_len, axs, axw, aresL, afill, Value.oneCell', Nat.reduceLT, Nat.reduceLeDiff, Nat.reduceEqDiff, Nat.reduceAdd, Nat.reduceMul, Nat.reduceSub, Nat.reduceBEq, Int.reduceLE, Int.reduceLT, Int.reduceToNat, Int.reduceNeg, Int.reduceEq, axt, ftK, ft3, AAll, ftQ, ST, tys]
      refine ⟨_, rfl, Sees.tup ?_⟩
      simp only [SeesL]
      have hid2 := hid _ _ _ _ e1
      exact ⟨Sees.same (by simp [noIds, noIdsL, noIdsE_PR, NV.ok']), Live.sees (te := 56) (Live.mk ((upd_ne _ _ (by omega)).trans ((upd_ne _ _ (by omega)).trans e2)) (by rw [PR_len])) (noIdsE_PR _), trivial⟩
end Go.Al
