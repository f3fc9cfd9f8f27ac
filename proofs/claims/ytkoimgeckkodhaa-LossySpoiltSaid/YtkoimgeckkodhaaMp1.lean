/- A cache of any policy, by the reference: its state, and what its policy's functions come to. Conditions: none. -/
import Derived.Test.YtkoimgeckkodhaaLo11
import Derived.Test.YtkoimgeckkodhaaRqB
set_option linter.unusedVariables false
set_option linter.unusedSimpArgs false
set_option maxRecDepth 20000
set_option maxHeartbeats 3200000
-- axs, axw, aresL, afill, Value.oneCell', Nat.reduceLT, Nat.reduceLeDiff, Nat.reduceEqDiff, Nat.reduceAdd, Nat.reduceMul, Nat.reduceSub, Nat.reduceBEq, Int.reduceLE, Int.reduceLT, Int.reduceToNat, Int.reduceNeg, Int.reduceEq, axt, ftK, ft3, AAll, ftQ, ST, tys: ST
-- NOIDS: noIdsE_PR, NV.ok'
-- LENS: PR_len
namespace Go.Al
open Go.Proofs
/-- A value without objects. -/
structure NV where
  v : AV
  ok : noIds v = true
theorem NV.ok' (x : NV) : noIds x.v = true := x.ok
/-- The cells of the five policies' states. -/
structure X19 where
  a1 : NV
  a2 : NV
  a3 : NV
  a4 : NV
  a5 : NV
  a6 : NV
  a7 : NV
  a8 : NV
  a9 : NV
  a10 : NV
  a11 : NV
  a12 : NV
  a13 : NV
  a14 : NV
  a15 : NV
  a16 : NV
  a17 : NV
  a18 : NV
  a19 : NV
/-- A cache's state: policy, the policies' cells, pairs, counts. -/
def ST (p : Int) (x : X19) (P : List (Int × Int)) (h m e : Int) : AV := .agg [.sc (.int .i64 p), x.a1.v, x.a2.v, x.a3.v, x.a4.v, x.a5.v, x.a6.v, x.a7.v, x.a8.v, x.a9.v, x.a10.v, x.a11.v, x.a12.v, x.a13.v, x.a14.v, x.a15.v, x.a16.v, x.a17.v, x.a18.v, x.a19.v, .lst 2 (PR P), .sc (.int .i64 h), .sc (.int .i64 m), .sc (.int .i64 e)]
/-- Keys may be these numbers. -/
def KeyOk (k : Int) : Prop := 0 ≤ k ∧ k < 18446744073709551616
/-- What is there behind an act: those that stay, and those that come. -/
structure Pol where
  St : Type
  p : Int
  cel : St → X19
  ok : St → Prop
  ks : St → List Int
  new : Int → St
  touch : St → Int → St
  drop : St → Int → St
  admit : St → Int → St × List Int
  resize : St → Int → St × List Int
  oNew : ∀ c, 1 ≤ c → c ≤ 14 → ok (new c) ∧ ks (new c) = []
  nd : ∀ s, ok s → (ks s).Nodup ∧ (ks s).length ≤ 14
  oTouch : ∀ s k, ok s → KeyOk k → ok (touch s k) ∧ ∀ x, x ∈ ks (touch s k) ↔ x ∈ ks s
  oDrop : ∀ s k, ok s → KeyOk k → ok (drop s k) ∧ ∀ x, x ∈ ks (drop s k) ↔ x ∈ ks s ∧ x ≠ k
  oAdmit : ∀ s k, ok s → KeyOk k → k ∉ ks s → ok (admit s k).1 ∧ (admit s k).2.Nodup ∧ (∀ x ∈ (admit s k).2, x ∈ ks s) ∧ ∀ x, x ∈ ks (admit s k).1 ↔ x = k ∨ (x ∈ ks s ∧ x ∉ (admit s k).2)
  oResize : ∀ s c, ok s → 1 ≤ c → c ≤ 14 → ok (resize s c).1 ∧ (resize s c).2.Nodup ∧ (∀ x ∈ (resize s c).2, x ∈ ks s) ∧ ∀ x, x ∈ ks (resize s c).1 ↔ (x ∈ ks s ∧ x ∉ (resize s c).2)
  cNew : ∀ c, 1 ≤ c → c ≤ 14 → PCalls Try.prog 20 [.sc (.int .i64 p), .sc (.int .i64 c)] (ST p (cel (new c)) [] 0 0 0)
  cKeys : ∀ s P h m e, ok s → PCalls Try.prog 32 [ST p (cel s) P h m e] (.lst 1 (U (ks s)))
  cTouch : ∀ s P h m e k, ok s → PCalls Try.prog 33 [ST p (cel s) P h m e, .sc (.int .u64 k)] (ST p (cel (touch s k)) P h m e)
  cDrop : ∀ s P h m e k, ok s → PCalls Try.prog 37 [ST p (cel s) P h m e, .sc (.int .u64 k)] (ST p (cel (drop s k)) P h m e)
  cAdmit : ∀ s P h m e k, ok s → PCalls Try.prog 59 [ST p (cel s) P h m e, .sc (.int .u64 k)] (.tup [ST p (cel (admit s k).1) P h m e, .lst 1 (U (admit s k).2)])
  cResize : ∀ s P h m e c, ok s → 1 ≤ c → c ≤ 14 → PCalls Try.prog 39 [ST p (cel s) P h m e, .sc (.int .i64 c)] (.tup [ST p (cel (resize s c).1) P h m e, .lst 1 (U (resize s c).2)])
/-- Pairs without a key's. -/
def remP (P : List (Int × Int)) (k : Int) : List (Int × Int) := P.filter fun x => decide (x.1 ≠ k)
theorem remP_len (P : List (Int × Int)) (k : Int) : (remP P k).length ≤ P.length := List.length_filter_le _ _
theorem PR_snoc (l : List (Int × Int)) (x : Int × Int) : PR (l ++ [x]) = PR l ++ [[.sc (.int .u64 x.1), .sc (.int .u64 x.2)]] := by simp [PR]
theorem rRemP (P : List (Int × Int)) (k : Int) (hl : P.length ≤ 100000) : PCalls Try.prog 36 [.lst 2 (PR P), .sc (.int .u64 k)] (.lst 2 (PR (remP P k))) := by
  refine PCalls.intro2 Try.func36 rfl rfl Try.ntmps36 Try.results36 (by simp) fun n => ?_; simp (maxSteps := 400000) (dsimp := false) only [axs, axw, aresL, afill, Value.oneCell', Nat.reduceLT, Nat.reduceLeDiff, Nat.reduceEqDiff, Nat.reduceAdd, Nat.reduceMul, Nat.reduceSub, Nat.reduceBEq, Int.reduceLE, Int.reduceLT, Int.reduceToNat, Int.reduceNeg, Int.reduceEq, axt, ftK, ft3, AAll, ftQ, ST, tys]
  refine ALoop.upto P.length (fun p s => s.t 0 = .lst 2 (PR P) ∧ s.t 1 = .sc (.int .u64 k) ∧ s.t 6 = .sc (.int .i64 p) ∧ Live 56 2 s.H (PR (remP (P.take p) k)) (s.t 5)) ⟨rfl, rfl, rfl, Live.nil⟩ ?_
  rintro p s hp hb ⟨h0, h1, h6, hv⟩
  have hwl : (remP (P.take p) k).length ≤ 100000 := Nat.le_trans (remP_len _ _) (by rw [List.length_take]; omega)
  rcases Nat.lt_or_ge p P.length with hlt | hge
  · obtain ⟨x, hx, hp0, hpl, hw, hT, hD⟩ := idx hlt (by omega)
    have hg := PR_get hx
    by_cases e : x.1 = k
    · simp (maxSteps := 400000) (dsimp := false) only [h0, h1, h6, hg, hp0, hpl, hw, PR_len, e, bne_self_eq_false, axs, axw, aresL, afill, Value.oneCell', Nat.reduceLT, Nat.reduceLeDiff, Nat.reduceEqDiff, Nat.reduceAdd, Nat.reduceMul, Nat.reduceSub, Nat.reduceBEq, Int.reduceLE, Int.reduceLT, Int.reduceToNat, Int.reduceNeg, Int.reduceEq, axt, ftK, ft3, AAll, ftQ, ST, tys]
      exact ⟨hlt, by rw [hT]; simpa [remP, e] using hv⟩
    · have hs : remP (P.take (p + 1)) k = remP (P.take p) k ++ [x] := by rw [hT]; simp [remP, e]
      rw [hs, PR_snoc]
      generalize remP (P.take p) k = q at *
      have b1 : (q.length + 1) * 16 ≤ 140737488355328 := by omega
      have b2 : q.length + 1 ≤ 1099511627776 := by omega
      rcases hv.cases hb with ⟨h7, h8⟩ | ⟨id, hlt2, hne, h7, h8⟩
      · obtain rfl := PR_nil h7
        simp (maxSteps := 400000) (dsimp := false) only [h0, h1, h6, hg, hp0, hpl, hw, PR_len, e, h8, axs, axw, aresL, afill, Value.oneCell', Nat.reduceLT, Nat.reduceLeDiff, Nat.reduceEqDiff, Nat.reduceAdd, Nat.reduceMul, Nat.reduceSub, Nat.reduceBEq, Int.reduceLE, Int.reduceLT, Int.reduceToNat, Int.reduceNeg, Int.reduceEq, axt, ftK, ft3, AAll, ftQ, ST, tys]
        exact ⟨hlt, Live.mk (upd_same _ _ _) rfl⟩
      · rw [PR_len] at h7
        simp (maxSteps := 400000) (dsimp := false) only [h0, h1, h6, hg, hp0, hpl, hw, PR_len, e, h7, h8, hne, b1, b2, axs, axw, aresL, afill, Value.oneCell', Nat.reduceLT, Nat.reduceLeDiff, Nat.reduceEqDiff, Nat.reduceAdd, Nat.reduceMul, Nat.reduceSub, Nat.reduceBEq, Int.reduceLE, Int.reduceLT, Int.reduceToNat, Int.reduceNeg, Int.reduceEq, axt, ftK, ft3, AAll, ftQ, ST, tys]
        exact ⟨hlt, Live.mk (upd_same _ _ _) (by simp [PR_len])⟩
  · have hpl : ¬ (p : Int) < P.length := by omega
    rw [List.take_of_length_le hge] at hv
    simp (maxSteps := 400000) (dsimp := false) only [h0, h1, h6, hpl, PR_len, axs, axw, aresL, afill, Value.oneCell', Nat.reduceLT, Nat.reduceLeDiff, Nat.reduceEqDiff, Nat.reduceAdd, Nat.reduceMul, Nat.reduceSub, Nat.reduceBEq, Int.reduceLE, Int.reduceLT, Int.reduceToNat, Int.reduceNeg, Int.reduceEq, axt, ftK, ft3, AAll, ftQ, ST, tys]
    exact ⟨_, rfl, hv.sees (noIdsE_PR _)⟩
theorem rValue (P : List (Int × Int)) (k : Int) (hl : P.length ≤ 100000) : PCalls Try.prog 34 [.lst 2 (PR P), .sc (.int .u64 k)] (.sc (.int .u64 (valK P k))) := by
  refine PCalls.intro2 Try.func34 rfl rfl Try.ntmps34 Try.results34 (by simp) fun n => ?_; simp (maxSteps := 400000) (dsimp := false) only [axs, axw, aresL, afill, Value.oneCell', Nat.reduceLT, Nat.reduceLeDiff, Nat.reduceEqDiff, Nat.reduceAdd, Nat.reduceMul, Nat.reduceSub, Nat.reduceBEq, Int.reduceLE, Int.reduceLT, Int.reduceToNat, Int.reduceNeg, Int.reduceEq, axt, ftK, ft3, AAll, ftQ, ST, tys]
  refine ALoop.upto P.length (fun p s => s.t 0 = .lst 2 (PR P) ∧ s.t 1 = .sc (.int .u64 k) ∧ s.t 5 = .sc (.int .i64 p) ∧ ∀ (q : Nat) (y : Int × Int), q < p → P[q]? = some y → decide (y.1 = k) = false) ⟨rfl, rfl, rfl, fun q y hq => absurd hq (Nat.not_lt_zero q)⟩ ?_
  rintro p s hp hb ⟨h0, h1, h5, hq⟩
  rcases Nat.lt_or_ge p P.length with hlt | hge
  · obtain ⟨x, hx, hp0, hpl, hw, hT, hD⟩ := idx hlt (by omega)
    have hg := PR_get hx
    by_cases e : x.1 = k
    · have hv := valK_hit hx (decide_eq_true e) hq
      rw [hv]
      simp (maxSteps := 400000) (dsimp := false) only [h0, h1, h5, hg, hp0, hpl, hw, PR_len, e, axs, axw, aresL, afill, Value.oneCell', Nat.reduceLT, Nat.reduceLeDiff, Nat.reduceEqDiff, Nat.reduceAdd, Nat.reduceMul, Nat.reduceSub, Nat.reduceBEq, Int.reduceLE, Int.reduceLT, Int.reduceToNat, Int.reduceNeg, Int.reduceEq, axt, ftK, ft3, AAll, ftQ, ST, tys]
      exact ⟨_, rfl, Sees.sc⟩
    · simp (maxSteps := 400000) (dsimp := false) only [h0, h1, h5, hg, hp0, hpl, hw, PR_len, e, axs, axw, aresL, afill, Value.oneCell', Nat.reduceLT, Nat.reduceLeDiff, Nat.reduceEqDiff, Nat.reduceAdd, Nat.reduceMul, Nat.reduceSub, Nat.reduceBEq, Int.reduceLE, Int.reduceLT, Int.reduceToNat, Int.reduceNeg, Int.reduceEq, axt, ftK, ft3, AAll, ftQ, ST, tys]
      refine ⟨hlt, fun q y hq' hy => ?_⟩
      rcases Nat.lt_succ_iff_lt_or_eq.1 hq' with h | rfl
      · exact hq q y h hy
      · rw [hx] at hy; cases hy; exact decide_eq_false e
  · have hpl : ¬ (p : Int) < P.length := by omega
    have hv : valK P k = 0 := valK_miss fun y hy => by
      obtain ⟨q, h1, rfl⟩ := List.mem_iff_getElem.1 hy
      exact hq q _ (by omega) (List.getElem?_eq_getElem h1)
    rw [hv]
    simp (maxSteps := 400000) (dsimp := false) only [h0, h1, h5, hpl, PR_len, axs, axw, aresL, afill, Value.oneCell', Nat.reduceLT, Nat.reduceLeDiff, Nat.reduceEqDiff, Nat.reduceAdd, Nat.reduceMul, Nat.reduceSub, Nat.reduceBEq, Int.reduceLE, Int.reduceLT, Int.reduceToNat, Int.reduceNeg, Int.reduceEq, axt, ftK, ft3, AAll, ftQ, ST, tys]
    exact ⟨_, rfl, Sees.sc⟩
def mayB (n : Int) : Bool := decide (1 ≤ n ∧ n ≤ 1048576)
theorem rMay (n : Int) : PCalls Try.prog 38 [.sc (.int .i64 1), .sc (.int .i64 n)] (.sc (.int .i64 (if 1 ≤ n ∧ n ≤ 1048576 then 0 else 2))) := by
  have g15 : ¬ (1 : Int) > 5 := by omega
  by_cases h1 : n < 1
  · rw [if_neg (by omega)]
    refine PCalls.intro2 Try.func38 rfl rfl Try.ntmps38 Try.results38 (by simp) fun n => ?_; simp (maxSteps := 400000) (dsimp := false) only [g15, h1, axs, axw, aresL, afill, Value.oneCell', Nat.reduceLT, Nat.reduceLeDiff, Nat.reduceEqDiff, Nat.reduceAdd, Nat.reduceMul, Nat.reduceSub, Nat.reduceBEq, Int.reduceLE, Int.reduceLT, Int.reduceToNat, Int.reduceNeg, Int.reduceEq, axt, ftK, ft3, AAll, ftQ, ST, tys]
    exact ⟨_, rfl, Sees.sc⟩
  · by_cases h2 : n > 1048576
    · rw [if_neg (by omega)]
      refine PCalls.intro2 Try.func38 rfl rfl Try.ntmps38 Try.results38 (by simp) fun n => ?_; simp (maxSteps := 400000) (dsimp := false) only [g15, h1, h2, axs, axw, aresL, afill, Value.oneCell', Nat.reduceLT, Nat.reduceLeDiff, Nat.reduceEqDiff, Nat.reduceAdd, Nat.reduceMul, Nat.reduceSub, Nat.reduceBEq, Int.reduceLE, Int.reduceLT, Int.reduceToNat, Int.reduceNeg, Int.reduceEq, axt, ftK, ft3, AAll, ftQ, ST, tys]
      exact ⟨_, rfl, Sees.sc⟩
    · rw [if_pos (by omega)]
      refine PCalls.intro2 Try.func38 rfl rfl Try.ntmps38 Try.results38 (by simp) fun n => ?_; simp (maxSteps := 400000) (dsimp := false) only [g15, h1, h2, axs, axw, aresL, afill, Value.oneCell', Nat.reduceLT, Nat.reduceLeDiff, Nat.reduceEqDiff, Nat.reduceAdd, Nat.reduceMul, Nat.reduceSub, Nat.reduceBEq, Int.reduceLE, Int.reduceLT, Int.reduceToNat, Int.reduceNeg, Int.reduceEq, axt, ftK, ft3, AAll, ftQ, ST, tys]
      exact ⟨_, rfl, Sees.sc⟩
end Go.Al
