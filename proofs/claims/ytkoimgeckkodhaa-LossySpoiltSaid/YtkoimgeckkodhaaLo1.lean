/- Pairs in rows: places of keys and pairs, by the library's searches. Conditions: the rows are short. -/
import Derived.Test.YtkoimgeckkodhaaTy
set_option linter.unusedVariables false
set_option linter.unusedSimpArgs false
set_option maxRecDepth 20000
set_option maxHeartbeats 1600000
-- NOIDS: noIdsE_PR
-- LENS: PR_len
namespace Go.Al
open Go.Proofs
def PR (l : List (Int × Int)) : List (List AV) := l.map fun p => [.sc (.int .u64 p.1), .sc (.int .u64 p.2)]
theorem PR_len (l : List (Int × Int)) : (PR l).length = l.length := by simp [PR]
theorem PR_get {l : List (Int × Int)} {p : Nat} {x : Int × Int} (h : l[p]? = some x) : (PR l)[p]? = some [.sc (.int .u64 x.1), .sc (.int .u64 x.2)] := by simp [PR, h]
theorem PR_take (l : List (Int × Int)) (k : Nat) : (PR l).take k = PR (l.take k) := by simp [PR]
theorem PR_drop (l : List (Int × Int)) (k : Nat) : (PR l).drop k = PR (l.drop k) := by simp [PR]
theorem PR_append (a b : List (Int × Int)) : PR (a ++ b) = PR a ++ PR b := by simp [PR]
theorem PR_set (l : List (Int × Int)) (p : Nat) (a b : Int) : (PR l).set p [.sc (.int .u64 a), .sc (.int .u64 b)] = PR (l.set p (a, b)) := by simp [PR, List.map_set]
theorem noIdsE_PR (l : List (Int × Int)) : noIdsE (PR l) = true := noIdsE_map _ (fun x => by simp [noIdsL, noIds]) l
theorem PR_nil {l : List (Int × Int)} (h : PR l = []) : l = [] := by simpa [PR] using h
def idxT (t : Int × Int → Bool) (l : List (Int × Int)) : Int := match l.findIdx? t with | some i => i | none => -1
section
variable {t : Int × Int → Bool} {l : List (Int × Int)}
theorem idxT_hit {p : Nat} {x : Int × Int} (h : l[p]? = some x) (hx : t x = true) (hq : ∀ (q : Nat) (y : Int × Int), q < p → l[q]? = some y → t y = false) : idxT t l = p := by
  obtain ⟨hp, e⟩ := List.getElem?_eq_some_iff.1 h
  have : l.findIdx? t = some p := by
    rw [List.findIdx?_eq_some_iff_getElem]
    refine ⟨hp, by rw [e]; exact hx, fun j hj => ?_⟩
    have := hq j _ hj (List.getElem?_eq_getElem (by omega))
    simp [this]
  simp [idxT, this]
theorem idxT_miss (hq : ∀ (q : Nat) (y : Int × Int), q < l.length → l[q]? = some y → t y = false) : idxT t l = -1 := by
  have : l.findIdx? t = none := by
    rw [List.findIdx?_eq_none_iff]
    intro x hx
    obtain ⟨q, h1, h2⟩ := List.mem_iff_getElem.1 hx
    exact hq q x h1 (by rw [List.getElem?_eq_getElem h1, h2])
  simp [idxT, this]
/-- What a search tells. -/
theorem idxT_cases (t : Int × Int → Bool) (l : List (Int × Int)) : (idxT t l = -1 ∧ ∀ y ∈ l, t y = false) ∨ ∃ (p : Nat) (x : Int × Int), idxT t l = p ∧ l[p]? = some x ∧ t x = true ∧ ∀ (q : Nat) (y : Int × Int), q < p → l[q]? = some y → t y = false := by
  unfold idxT
  cases e : l.findIdx? t with
  | none =>
    rw [List.findIdx?_eq_none_iff] at e
    exact .inl ⟨rfl, e⟩
  | some p =>
    rw [List.findIdx?_eq_some_iff_getElem] at e
    obtain ⟨hp, h1, h2⟩ := e
    refine .inr ⟨p, l[p], rfl, List.getElem?_eq_getElem hp, h1, fun q y hq hy => ?_⟩
    obtain ⟨hq2, e2⟩ := List.getElem?_eq_some_iff.1 hy
    have := h2 q hq
    rw [e2] at this
    simpa using this
end
/-- A test of pairs, as a function: it changes nothing. -/
def TestF (g : Nat) (caps : List AV) (t : Int × Int → Bool) (H : AH) (b : Nat) : Prop := ∀ (n : Nat) (x : Int × Int), b ≤ n → HCalls Try.prog g (.agg [.sc (.int .u64 x.1), .sc (.int .u64 x.2)] :: caps) H n fun v H' n' => v = .sc (.bool (t x)) ∧ H' = H ∧ n' = n
theorem cIdxR (t : Int × Int → Bool) (l : List (Int × Int)) (hl : l.length ≤ 1000000) {g : Nat} {caps : List AV} {H : AH} {n : Nat} (hf : TestF g caps t H n) :
    HCalls Try.prog 70 [.lst 2 (PR l), .fn g caps] H n fun v H' n' => v = .sc (.int .i64 (idxT t l)) ∧ H' = H ∧ n' = n := by
  refine HCalls.walk Try.func70 rfl rfl Try.ntmps70 Try.results70 (by simp) ?_; simp (maxSteps := 400000) (dsimp := false) only [PR_len, axs, axw, aresL, afill, Value.oneCell', Nat.reduceLT, Nat.reduceLeDiff, Nat.reduceEqDiff, Nat.reduceAdd, Nat.reduceMul, Nat.reduceSub, Nat.reduceBEq, Int.reduceLE, Int.reduceLT, Int.reduceToNat, Int.reduceNeg, Int.reduceEq, axt, ftK, ft3, AAll, ftQ, tys]
  refine ALoop.upto l.length (fun p s => s.t 0 = .lst 2 (PR l) ∧ s.t 1 = .fn g caps ∧ s.t 7 = .sc (.int .i64 l.length) ∧ s.t 8 = .sc (.int .i64 p) ∧ s.H = H ∧ s.n = n ∧ ∀ (q : Nat) (y : Int × Int), q < p → l[q]? = some y → t y = false) ⟨rfl, rfl, rfl, rfl, rfl, rfl, fun q y hq => absurd hq (Nat.not_lt_zero q)⟩ ?_
  rintro p s hp hb ⟨h0, h1, h7, h8, hH, hn, hq⟩
  rcases Nat.lt_or_ge p l.length with hlt | hge
  · obtain ⟨x, hx, hp0, hpl, hw, hT, hD⟩ := idx hlt (by omega)
    have hg := PR_get hx
    simp (maxSteps := 400000) (dsimp := false) only [h0, h1, h7, h8, hp0, hpl, hg, PR_len, axs, axw, aresL, afill, Value.oneCell', Nat.reduceLT, Nat.reduceLeDiff, Nat.reduceEqDiff, Nat.reduceAdd, Nat.reduceMul, Nat.reduceSub, Nat.reduceBEq, Int.reduceLE, Int.reduceLT, Int.reduceToNat, Int.reduceNeg, Int.reduceEq, axt, ftK, ft3, AAll, ftQ, tys]
    refine ACallK.heap _ rfl (by rw [hH]; exact hf _ x (Nat.le_of_eq hn.symm)) ?_
    rintro v H' n' ⟨rfl, eH, en⟩
    have eH : H' = s.H := eH.trans hH.symm
    have en : n' = s.n := en
    subst eH
    subst en
    cases ht : t x with
    | true =>
      have := idxT_hit hx ht hq
      simp (maxSteps := 400000) (dsimp := false) only [h0, h1, h7, h8, this, axs, axw, aresL, afill, Value.oneCell', Nat.reduceLT, Nat.reduceLeDiff, Nat.reduceEqDiff, Nat.reduceAdd, Nat.reduceMul, Nat.reduceSub, Nat.reduceBEq, Int.reduceLE, Int.reduceLT, Int.reduceToNat, Int.reduceNeg, Int.reduceEq, axt, ftK, ft3, AAll, ftQ, tys]
      exact ⟨_, rfl, rfl, hH, hn⟩
    | false =>
      simp (maxSteps := 400000) (dsimp := false) only [h0, h1, h7, h8, hw, axs, axw, aresL, afill, Value.oneCell', Nat.reduceLT, Nat.reduceLeDiff, Nat.reduceEqDiff, Nat.reduceAdd, Nat.reduceMul, Nat.reduceSub, Nat.reduceBEq, Int.reduceLE, Int.reduceLT, Int.reduceToNat, Int.reduceNeg, Int.reduceEq, axt, ftK, ft3, AAll, ftQ, tys]
      refine ⟨hlt, hH, hn, fun q y hq' hy => ?_⟩
      rcases Nat.lt_succ_iff_lt_or_eq.1 hq' with h | rfl
      · exact hq q y h hy
      · rw [hx] at hy; cases hy; exact ht
  · have hge2 : p = l.length := by omega
    subst hge2
    have hpl : ¬ (l.length : Int) < l.length := by omega
    have := idxT_miss hq
    simp (maxSteps := 400000) (dsimp := false) only [h0, h1, h7, h8, hpl, this, axs, axw, aresL, afill, Value.oneCell', Nat.reduceLT, Nat.reduceLeDiff, Nat.reduceEqDiff, Nat.reduceAdd, Nat.reduceMul, Nat.reduceSub, Nat.reduceBEq, Int.reduceLE, Int.reduceLT, Int.reduceToNat, Int.reduceNeg, Int.reduceEq, axt, ftK, ft3, AAll, ftQ, tys]
    exact ⟨_, rfl, rfl, hH, hn⟩
theorem cIdxLive (t : Int × Int → Bool) (l : List (Int × Int)) (hl : l.length ≤ 1000000) {g id te : Nat} {caps : List AV} {H : AH} {n : Nat} (hid : H id = some (.obj te 2 (PR l) false)) (hf : TestF g caps t H n) :
    HCalls Try.prog 70 [.sl id 2 0 l.length, .fn g caps] H n fun v H' n' => v = .sc (.int .i64 (idxT t l)) ∧ H' = H ∧ n' = n := by
  refine HCalls.walk Try.func70 rfl rfl Try.ntmps70 Try.results70 (by simp) ?_; simp (maxSteps := 400000) (dsimp := false) only [PR_len, axs, axw, aresL, afill, Value.oneCell', Nat.reduceLT, Nat.reduceLeDiff, Nat.reduceEqDiff, Nat.reduceAdd, Nat.reduceMul, Nat.reduceSub, Nat.reduceBEq, Int.reduceLE, Int.reduceLT, Int.reduceToNat, Int.reduceNeg, Int.reduceEq, axt, ftK, ft3, AAll, ftQ, tys]
  refine ALoop.upto l.length (fun p s => s.t 0 = .sl id 2 0 l.length ∧ s.t 1 = .fn g caps ∧ s.t 7 = .sc (.int .i64 l.length) ∧ s.t 8 = .sc (.int .i64 p) ∧ s.H = H ∧ s.n = n ∧ ∀ (q : Nat) (y : Int × Int), q < p → l[q]? = some y → t y = false) ⟨rfl, rfl, rfl, rfl, rfl, rfl, fun q y hq => absurd hq (Nat.not_lt_zero q)⟩ ?_
  rintro p s hp hb ⟨h0, h1, h7, h8, hH, hn, hq⟩
  rcases Nat.lt_or_ge p l.length with hlt | hge
  · obtain ⟨x, hx, hp0, hpl, hw, hT, hD⟩ := idx hlt (by omega)
    have hg := PR_get hx
    have hid2 : s.H id = some (.obj te 2 (PR l) false) := by rw [hH]; exact hid
    simp (maxSteps := 400000) (dsimp := false) only [h0, h1, h7, h8, hp0, hpl, hg, PR_len, hid2, axs, axw, aresL, afill, Value.oneCell', Nat.reduceLT, Nat.reduceLeDiff, Nat.reduceEqDiff, Nat.reduceAdd, Nat.reduceMul, Nat.reduceSub, Nat.reduceBEq, Int.reduceLE, Int.reduceLT, Int.reduceToNat, Int.reduceNeg, Int.reduceEq, axt, ftK, ft3, AAll, ftQ, tys]
    refine ACallK.heap _ rfl (by rw [hH]; exact hf _ x (Nat.le_of_eq hn.symm)) ?_
    rintro v H' n' ⟨rfl, eH, en⟩
    have eH : H' = s.H := eH.trans hH.symm
    have en : n' = s.n := en
    subst eH
    subst en
    cases ht : t x with
    | true =>
      have := idxT_hit hx ht hq
      simp (maxSteps := 400000) (dsimp := false) only [h0, h1, h7, h8, this, axs, axw, aresL, afill, Value.oneCell', Nat.reduceLT, Nat.reduceLeDiff, Nat.reduceEqDiff, Nat.reduceAdd, Nat.reduceMul, Nat.reduceSub, Nat.reduceBEq, Int.reduceLE, Int.reduceLT, Int.reduceToNat, Int.reduceNeg, Int.reduceEq, axt, ftK, ft3, AAll, ftQ, tys]
      exact ⟨_, rfl, rfl, hH, hn⟩
    | false =>
      simp (maxSteps := 400000) (dsimp := false) only [h0, h1, h7, h8, hw, axs, axw, aresL, afill, Value.oneCell', Nat.reduceLT, Nat.reduceLeDiff, Nat.reduceEqDiff, Nat.reduceAdd, Nat.reduceMul, Nat.reduceSub, Nat.reduceBEq, Int.reduceLE, Int.reduceLT, Int.reduceToNat, Int.reduceNeg, Int.reduceEq, axt, ftK, ft3, AAll, ftQ, tys]
      refine ⟨hlt, hH, hn, fun q y hq' hy => ?_⟩
      rcases Nat.lt_succ_iff_lt_or_eq.1 hq' with h | rfl
      · exact hq q y h hy
      · rw [hx] at hy; cases hy; exact ht
  · have hge2 : p = l.length := by omega
    subst hge2
    have hpl : ¬ (l.length : Int) < l.length := by omega
    have := idxT_miss hq
    simp (maxSteps := 400000) (dsimp := false) only [h0, h1, h7, h8, hpl, this, axs, axw, aresL, afill, Value.oneCell', Nat.reduceLT, Nat.reduceLeDiff, Nat.reduceEqDiff, Nat.reduceAdd, Nat.reduceMul, Nat.reduceSub, Nat.reduceBEq, Int.reduceLE, Int.reduceLT, Int.reduceToNat, Int.reduceNeg, Int.reduceEq, axt, ftK, ft3, AAll, ftQ, tys]
    exact ⟨_, rfl, rfl, hH, hn⟩
theorem cIdxNil (n : Nat) (g : AV) (H : AH) : HCalls Try.prog 70 [.sc (.slice none 0 0), g] H n fun v H' n' => v = .sc (.int .i64 (-1)) ∧ H' = H ∧ n' = n := by
  refine HCalls.walk Try.func70 rfl rfl Try.ntmps70 Try.results70 (by simp) ?_; simp (maxSteps := 400000) (dsimp := false) only [axs, axw, aresL, afill, Value.oneCell', Nat.reduceLT, Nat.reduceLeDiff, Nat.reduceEqDiff, Nat.reduceAdd, Nat.reduceMul, Nat.reduceSub, Nat.reduceBEq, Int.reduceLE, Int.reduceLT, Int.reduceToNat, Int.reduceNeg, Int.reduceEq, axt, ftK, ft3, AAll, ftQ, tys]
  refine ALoop.intro (fun k s => s.t 7 = .sc (.int .i64 0) ∧ s.t 8 = .sc (.int .i64 0) ∧ s.H = H ∧ s.n = n) 0 ⟨rfl, rfl, rfl, rfl⟩ ?_
  rintro k s ⟨h7, h8, hH, hn⟩
  simp (maxSteps := 400000) (dsimp := false) only [h7, h8, hH, hn, axs, axw, aresL, afill, Value.oneCell', Nat.reduceLT, Nat.reduceLeDiff, Nat.reduceEqDiff, Nat.reduceAdd, Nat.reduceMul, Nat.reduceSub, Nat.reduceBEq, Int.reduceLE, Int.reduceLT, Int.reduceToNat, Int.reduceNeg, Int.reduceEq, axt, ftK, ft3, AAll, ftQ, tys]
  exact ⟨_, rfl, rfl⟩
/-- The test of at: is it the key? -/
theorem cAtF (k : Int) {H : AH} {kb te : Nat} (hk : H kb = some (.obj te 1 [[.sc (.int .u64 k)]] false)) : TestF 71 [.ptr kb 1 0 0] (fun x => decide (x.1 = k)) H (kb + 1) := by
  intro n x hn
  refine HCalls.forget ?_ rfl
  have hkn : ¬ kb = n := by omega
  refine HCalls.walk Try.func71 rfl rfl Try.ntmps71 Try.results71 (by simp) ?_; simp (maxSteps := 400000) (dsimp := false) only [hk, hkn, axs, axw, aresL, afill, Value.oneCell', Nat.reduceLT, Nat.reduceLeDiff, Nat.reduceEqDiff, Nat.reduceAdd, Nat.reduceMul, Nat.reduceSub, Nat.reduceBEq, Int.reduceLE, Int.reduceLT, Int.reduceToNat, Int.reduceNeg, Int.reduceEq, axt, ftK, ft3, AAll, ftQ, tys]
  exact ⟨_, rfl, rfl, (Keeps.refl _ _).upd⟩
def idxK (l : List (Int × Int)) (k : Int) : Int := idxT (fun x => decide (x.1 = k)) l
theorem cAt (l : List (Int × Int)) (k : Int) (hl : l.length ≤ 1000000) : PCalls Try.prog 41 [.lst 2 (PR l), .sc (.int .u64 k)] (.sc (.int .i64 (idxK l k))) := by
  refine PCalls.intro2 Try.func41 rfl rfl Try.ntmps41 Try.results41 (by simp) fun n => ?_; simp (maxSteps := 400000) (dsimp := false) only [axs, axw, aresL, afill, Value.oneCell', Nat.reduceLT, Nat.reduceLeDiff, Nat.reduceEqDiff, Nat.reduceAdd, Nat.reduceMul, Nat.reduceSub, Nat.reduceBEq, Int.reduceLE, Int.reduceLT, Int.reduceToNat, Int.reduceNeg, Int.reduceEq, axt, ftK, ft3, AAll, ftQ, tys]
  refine ACallK.heap _ rfl (cIdxR _ l hl (cAtF k (upd_same _ _ _))) ?_; rintro r' H' n' ⟨rfl, eH, en⟩; obtain rfl := eH.symm; obtain rfl := en.symm; clear eH en; simp (maxSteps := 400000) (dsimp := false) only [axs, axw, aresL, afill, Value.oneCell', Nat.reduceLT, Nat.reduceLeDiff, Nat.reduceEqDiff, Nat.reduceAdd, Nat.reduceMul, Nat.reduceSub, Nat.reduceBEq, Int.reduceLE, Int.reduceLT, Int.reduceToNat, Int.reduceNeg, Int.reduceEq, axt, ftK, ft3, AAll, ftQ, tys]
  exact ⟨_, rfl, Sees.sc⟩
end Go.Al
