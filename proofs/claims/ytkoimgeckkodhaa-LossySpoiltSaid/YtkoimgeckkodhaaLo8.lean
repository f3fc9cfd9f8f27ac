/- A map that forgets: few answers; a key's place; the law's own first look. Conditions: none. -/
import Derived.Test.YtkoimgeckkodhaaLo7
set_option linter.unusedVariables false
set_option linter.unusedSimpArgs false
set_option maxRecDepth 20000
set_option maxHeartbeats 6400000
-- NOIDS: noIdsE_PR, noIdsE_OL, noIdsE_AL
-- LENS: PR_len, OL_len, AL_len
namespace Go.Al
open Go.Proofs
def fewB (bs : List LAns) : Bool := decide (bs.length ≤ 60 ∧ ∀ a ∈ bs, a.out.length ≤ 30)
theorem rFew (bs : List LAns) : PCalls Try.prog 9 [.lst 5 (AL bs)] (.sc (.bool (fewB bs))) := by
  refine PCalls.intro2 Try.func9 rfl rfl Try.ntmps9 Try.results9 (by simp) fun n => ?_; simp (maxSteps := 400000) (dsimp := false) only [axs, axw, aresL, afill, Value.oneCell', Nat.reduceLT, Nat.reduceLeDiff, Nat.reduceEqDiff, Nat.reduceAdd, Nat.reduceMul, Nat.reduceSub, Nat.reduceBEq, Int.reduceLE, Int.reduceLT, Int.reduceToNat, Int.reduceNeg, Int.reduceEq, axt, ftK, ft3, AAll, ftQ, tys]
  refine ALoop.upto (min bs.length 61) (fun p s => s.t 0 = .lst 5 (AL bs) ∧ s.t 3 = .sc (.int .i64 p) ∧ ∀ q a, q < p → bs[q]? = some a → a.out.length ≤ 30) ⟨rfl, rfl, fun q a hq => absurd hq (Nat.not_lt_zero q)⟩ ?_
  rintro p s hp hb ⟨h0, h3, hq⟩
  by_cases h61 : (p : Int) < 61
  · by_cases hlt : p < bs.length
    · obtain ⟨a, ha⟩ : ∃ a, bs[p]? = some a := ⟨_, List.getElem?_eq_getElem hlt⟩
      have hg := AL_get ha
      have hp0 : (0 : Int) ≤ (p : Int) := by omega
      have hpl : (p : Int) < bs.length := by omega
      have hw : IntKind.i64.wrap ((p : Int) + 1) = ((p + 1 : Nat) : Int) := by rw [wrap_in (by omega) (by omega)]; rfl
      by_cases h30 : (a.out.length : Int) > 30
      · have hf : fewB bs = false := decide_eq_false fun h => by have := h.2 a (List.mem_of_getElem? ha); omega
        simp (maxSteps := 400000) (dsimp := false) only [h0, h3, hp0, hpl, h61, hg, AL_len, PR_len, h30, hf, axs, axw, aresL, afill, Value.oneCell', Nat.reduceLT, Nat.reduceLeDiff, Nat.reduceEqDiff, Nat.reduceAdd, Nat.reduceMul, Nat.reduceSub, Nat.reduceBEq, Int.reduceLE, Int.reduceLT, Int.reduceToNat, Int.reduceNeg, Int.reduceEq, axt, ftK, ft3, AAll, ftQ, tys]
        exact ⟨_, rfl, Sees.sc⟩
      · simp (maxSteps := 400000) (dsimp := false) only [h0, h3, hp0, hpl, h61, hg, AL_len, PR_len, h30, hw, axs, axw, aresL, afill, Value.oneCell', Nat.reduceLT, Nat.reduceLeDiff, Nat.reduceEqDiff, Nat.reduceAdd, Nat.reduceMul, Nat.reduceSub, Nat.reduceBEq, Int.reduceLE, Int.reduceLT, Int.reduceToNat, Int.reduceNeg, Int.reduceEq, axt, ftK, ft3, AAll, ftQ, tys]
        refine ⟨by omega, fun q b hq2 hb2 => ?_⟩
        rcases Nat.lt_succ_iff_lt_or_eq.1 hq2 with h | rfl
        · exact hq q b h hb2
        · rw [ha] at hb2; cases hb2; omega
    · have hpl : ¬ (p : Int) < bs.length := by omega
      have h60 : (bs.length : Int) ≤ 60 := by omega
      have hf : fewB bs = true := decide_eq_true ⟨by omega, fun a ha => by
        obtain ⟨q, h1, rfl⟩ := List.mem_iff_getElem.1 ha
        exact hq q _ (by omega) (List.getElem?_eq_getElem h1)⟩
      simp (maxSteps := 400000) (dsimp := false) only [h0, h3, hpl, AL_len, h60, hf, axs, axw, aresL, afill, Value.oneCell', Nat.reduceLT, Nat.reduceLeDiff, Nat.reduceEqDiff, Nat.reduceAdd, Nat.reduceMul, Nat.reduceSub, Nat.reduceBEq, Int.reduceLE, Int.reduceLT, Int.reduceToNat, Int.reduceNeg, Int.reduceEq, axt, ftK, ft3, AAll, ftQ, tys]
      exact ⟨_, rfl, Sees.sc⟩
  · have hpl : (p : Int) < bs.length ∨ ¬ (p : Int) < bs.length := Classical.em _
    have h60 : ¬ (bs.length : Int) ≤ 60 := by omega
    have hf : fewB bs = false := decide_eq_false fun h => by have := h.1; omega
    rcases hpl with hpl | hpl
    · simp (maxSteps := 400000) (dsimp := false) only [h0, h3, hpl, h61, AL_len, h60, hf, axs, axw, aresL, afill, Value.oneCell', Nat.reduceLT, Nat.reduceLeDiff, Nat.reduceEqDiff, Nat.reduceAdd, Nat.reduceMul, Nat.reduceSub, Nat.reduceBEq, Int.reduceLE, Int.reduceLT, Int.reduceToNat, Int.reduceNeg, Int.reduceEq, axt, ftK, ft3, AAll, ftQ, tys]
      exact ⟨_, rfl, Sees.sc⟩
    · simp (maxSteps := 400000) (dsimp := false) only [h0, h3, hpl, h61, AL_len, h60, hf, axs, axw, aresL, afill, Value.oneCell', Nat.reduceLT, Nat.reduceLeDiff, Nat.reduceEqDiff, Nat.reduceAdd, Nat.reduceMul, Nat.reduceSub, Nat.reduceBEq, Int.reduceLE, Int.reduceLT, Int.reduceToNat, Int.reduceNeg, Int.reduceEq, axt, ftK, ft3, AAll, ftQ, tys]
      exact ⟨_, rfl, Sees.sc⟩
theorem rPlace (l : List (Int × Int)) (k : Int) (hl : l.length ≤ 1000000) : PCalls Try.prog 16 [.lst 2 (PR l), .sc (.int .u64 k)] (.sc (.int .i64 (idxK l k))) := by
  refine PCalls.intro2 Try.func16 rfl rfl Try.ntmps16 Try.results16 (by simp) fun n => ?_; simp (maxSteps := 400000) (dsimp := false) only [axs, axw, aresL, afill, Value.oneCell', Nat.reduceLT, Nat.reduceLeDiff, Nat.reduceEqDiff, Nat.reduceAdd, Nat.reduceMul, Nat.reduceSub, Nat.reduceBEq, Int.reduceLE, Int.reduceLT, Int.reduceToNat, Int.reduceNeg, Int.reduceEq, axt, ftK, ft3, AAll, ftQ, tys]
  refine ALoop.upto l.length (fun p s => s.t 0 = .lst 2 (PR l) ∧ s.t 1 = .sc (.int .u64 k) ∧ s.t 5 = .sc (.int .i64 p) ∧ ∀ (q : Nat) (y : Int × Int), q < p → l[q]? = some y → decide (y.1 = k) = false) ⟨rfl, rfl, rfl, fun q y hq => absurd hq (Nat.not_lt_zero q)⟩ ?_
  rintro p s hp hb ⟨h0, h1, h5, hq⟩
  rcases Nat.lt_or_ge p l.length with hlt | hge
  · obtain ⟨x, hx, hp0, hpl, hw, hT, hD⟩ := idx hlt (by omega)
    have hg := PR_get hx
    by_cases hk : x.1 = k
    · have hi : idxK l k = p := idxT_hit (t := fun x => decide (x.1 = k)) hx (decide_eq_true hk) hq
      simp (maxSteps := 400000) (dsimp := false) only [h0, h1, h5, hp0, hpl, hg, PR_len, eq_true hk, hi, axs, axw, aresL, afill, Value.oneCell', Nat.reduceLT, Nat.reduceLeDiff, Nat.reduceEqDiff, Nat.reduceAdd, Nat.reduceMul, Nat.reduceSub, Nat.reduceBEq, Int.reduceLE, Int.reduceLT, Int.reduceToNat, Int.reduceNeg, Int.reduceEq, axt, ftK, ft3, AAll, ftQ, tys]
      exact ⟨_, rfl, Sees.sc⟩
    · simp (maxSteps := 400000) (dsimp := false) only [h0, h1, h5, hp0, hpl, hg, PR_len, hk, hw, axs, axw, aresL, afill, Value.oneCell', Nat.reduceLT, Nat.reduceLeDiff, Nat.reduceEqDiff, Nat.reduceAdd, Nat.reduceMul, Nat.reduceSub, Nat.reduceBEq, Int.reduceLE, Int.reduceLT, Int.reduceToNat, Int.reduceNeg, Int.reduceEq, axt, ftK, ft3, AAll, ftQ, tys]
      refine ⟨hlt, fun q y hq' hy => ?_⟩
      rcases Nat.lt_succ_iff_lt_or_eq.1 hq' with h | rfl
      · exact hq q y h hy
      · rw [hx] at hy; cases hy; exact decide_eq_false hk
  · have hpl : ¬ (p : Int) < l.length := by omega
    obtain rfl : p = l.length := by omega
    have hi : idxK l k = -1 := idxT_miss (t := fun x => decide (x.1 = k)) hq
    simp (maxSteps := 400000) (dsimp := false) only [h0, h1, h5, hpl, PR_len, hi, axs, axw, aresL, afill, Value.oneCell', Nat.reduceLT, Nat.reduceLeDiff, Nat.reduceEqDiff, Nat.reduceAdd, Nat.reduceMul, Nat.reduceSub, Nat.reduceBEq, Int.reduceLE, Int.reduceLT, Int.reduceToNat, Int.reduceNeg, Int.reduceEq, axt, ftK, ft3, AAll, ftQ, tys]
    exact ⟨_, rfl, Sees.sc⟩
/-- An answer of which nothing is evicted, as it is built. -/
def nilA (a : LAns) : List AV := [.sc (.bool a.hit), .sc (.int .u64 a.val), .sc (.int .i64 a.n), .sc (.slice none 0 0), .sc (.int .i64 a.err)]
theorem RepEs.nilA {w : World} {B : Nat → Nat → Prop} {β : Nat → Nat} {n b : Nat} : ∀ (bs : List LAns) (o : Nat), (∀ a ∈ bs, a.out = []) → RepEs w B β n 5 b o (bs.map Al.nilA) → RepEs w B β n 5 b o (AL bs)
  | [], _, _, h => by simp only [AL, List.map_nil, RepEs]
  | a :: bs, o, hn, h => by
    simp only [AL, List.map_cons, RepEs] at h ⊢
    obtain ⟨h1, h2, h3⟩ := h
    refine ⟨rfl, ?_, RepEs.nilA bs _ (fun x hx => hn x (List.mem_cons_of_mem _ hx)) h3⟩
    unfold Al.nilA at h2
    unfold LAns.cells
    rw [hn a List.mem_cons_self]
    simp only [RepF] at h2 ⊢
    obtain ⟨c1, d1, c2, d2, c3, d3, ⟨u, k1, k2, k3⟩, d4, c5, d5, _⟩ := h2
    refine ⟨c1, d1, c2, d2, c3, d3, ⟨u, k1, ?_, k3⟩, d4, c5, d5, trivial⟩
    simp only [RepV] at k2 ⊢
    exact .inl ⟨⟨none, k2⟩, rfl⟩
theorem PCalls.nilA {P : Program} {f : FuncId} {x r : AV} {bs : List LAns} (hn : ∀ a ∈ bs, a.out = []) (h : PCalls P f [x, .lst 5 (AL bs)] r) : PCalls P f [x, .lst 5 (bs.map Al.nilA)] r :=
  ⟨h.1, fun w B β n vs hb hr => h.2 w B β n vs hb (by
    simp only [RepL] at hr ⊢
    obtain ⟨u, us, e, h1, u2, us2, e2, h2, h3⟩ := hr
    refine ⟨u, us, e, h1, u2, us2, e2, ?_, h3⟩
    simp only [RepV] at h2 ⊢
    rcases h2 with ⟨h4, h5⟩ | ⟨b, o, c, h4, h5, h6⟩
    · exact .inl ⟨h4, by have : bs = [] := by simpa using h5
                         rw [this]; rfl⟩
    · exact .inr ⟨b, o, c, by rw [AL_len]; rw [List.length_map] at h4; exact h4, by rw [AL_len]; rw [List.length_map] at h5; exact h5, RepEs.nilA bs o hn h6⟩)⟩
end Go.Al
