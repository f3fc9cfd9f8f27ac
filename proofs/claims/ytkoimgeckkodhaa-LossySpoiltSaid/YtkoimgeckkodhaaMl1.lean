/- Every policy forgets: its answers are those of a map that forgets, and what is left are its pairs. Conditions: the numbers fit their kinds. -/
import Derived.Test.YtkoimgeckkodhaaMp3
set_option linter.unusedVariables false
set_option linter.unusedSimpArgs false
set_option maxRecDepth 20000
set_option maxHeartbeats 6400000
-- axs, axw, aresL, afill, Value.oneCell', Nat.reduceLT, Nat.reduceLeDiff, Nat.reduceEqDiff, Nat.reduceAdd, Nat.reduceMul, Nat.reduceSub, Nat.reduceBEq, Int.reduceLE, Int.reduceLT, Int.reduceToNat, Int.reduceNeg, Int.reduceEq, axt, ftK, ft3, AAll, ftQ, ST, tys: ST
-- NOIDS: noIdsE_PR, NV.ok', noIdsE_OL, noIdsE_AL
-- LENS: PR_len, OL_len, AL_len
namespace Go.Al
open Go.Proofs
theorem u8_of {n : Int} (h : (Lit.int .u8 n).wf = true) : 0 ≤ n ∧ n < 256 := by
  simp [Lit.wf, IntKind.min, IntKind.max, IntKind.signed, IntKind.bits] at h
  omega
theorem pol_num {p : Int} (h0 : 0 ≤ p) (h1 : p < 256) : IntKind.i64.wrap p = p ∧ IntKind.i64.wrap (p.tmod 5) = p.tmod 5 ∧ IntKind.i64.wrap (1 + p.tmod 5) = 1 + p.tmod 5 := by
  have h2 := Int.tmod_nonneg 5 h0
  have h3 := Int.tmod_lt_of_pos p (show (0 : Int) < 5 by omega)
  exact ⟨wrap_in h0 (by omega), wrap_in h2 (by omega), wrap_in (by omega) (by omega)⟩
theorem cap_num {c : Int} (h0 : 0 ≤ c) (h1 : c < 256) : IntKind.i64.wrap c = c ∧ IntKind.i64.wrap (c.tmod 12) = c.tmod 12 ∧ IntKind.i64.wrap (1 + c.tmod 12) = 1 + c.tmod 12 ∧ 1 ≤ 1 + c.tmod 12 ∧ 1 + c.tmod 12 ≤ 14 := by
  have h2 := Int.tmod_nonneg 12 h0
  have h3 := Int.tmod_lt_of_pos c (show (0 : Int) < 12 by omega)
  exact ⟨wrap_in h0 (by omega), wrap_in h2 (by omega), wrap_in (by omega) (by omega), by omega, by omega⟩
theorem see8f890 {p : Prop} (h : p := by repeat' (first | exact True.intro | exact Sees.sc | exact Sees.none | ((with_reducible refine Sees.same ?_) <;> simp [noIds, noIdsL, noIdsE, noIdsE_U, noIdsE_UU, noIdsE_PR, NV.ok', noIdsE_OL, noIdsE_AL] <;> fail) | (refine Live.sees ?_ ?_ <;> first | assumption | (simp [noIdsE_U, noIdsE_UU, noIdsE_PR, NV.ok', noIdsE_OL, noIdsE_AL] <;> fail)) | (refine Sees.obj ?_ ?_ ?_ <;> first | exact ⟨_, _, by assumption, rfl⟩ | (simp [U_len, UU_len, PR_len, OL_len, AL_len] <;> fail) | (simp [noIdsE_U, noIdsE_UU, noIdsE_PR, NV.ok', noIdsE_OL, noIdsE_AL] <;> fail) | (simp [U, UU, upd] <;> fail) | (simp [U, UU, upd, neS, *] <;> fail)) | (refine Sees.of_seen 3 ?_ <;> simp [seen, upd, noIdsE, noIdsL, noIds, U, UU, Nat.add_assoc] <;> fail) | refine Sees.agg ?_ | refine And.intro ?_ ?_ | simp only [SeesL])) : p := h
theorem law_LossyPolicies (p : Int) (wp : (Lit.int .u8 p).wf = true) (c : Int) (wc : (Lit.int .u8 c).wf = true) (e : List (List Value)) (f : ∀ x ∈ e, FitK [some .i64, some .u64, some .u64, some .i64] x) :
    PCalls Try.prog 4 [.sc (.int .u8 p), .sc (.int .u8 c), .lst 4 (e.map fun e => e.map .sc)] (.sc (.bool true)) := by
  obtain ⟨l, hl, hk⟩ := rows_small f
  obtain ⟨p0, p1⟩ := u8_of wp
  obtain ⟨c0, c1⟩ := u8_of wc
  rw [hl]
  obtain ⟨w1, w2, w3⟩ := pol_num p0 p1
  obtain ⟨w4, w5, w6, k0, k1⟩ := cap_num c0 c1
  have cf := rFewO l
  refine PCalls.intro2 Try.func4 rfl rfl Try.ntmps4 Try.results4 (by simp) fun n => ?_; simp (maxSteps := 400000) (dsimp := false) only [axs, axw, aresL, afill, Value.oneCell', Nat.reduceLT, Nat.reduceLeDiff, Nat.reduceEqDiff, Nat.reduceAdd, Nat.reduceMul, Nat.reduceSub, Nat.reduceBEq, Int.reduceLE, Int.reduceLT, Int.reduceToNat, Int.reduceNeg, Int.reduceEq, axt, ftK, ft3, AAll, ftQ, ST, tys]
  refine ACallK.strict rfl (awake22) (by simp only [SeesL, axs, axt, AS.ev, AS.put, upd, inHeap, Nat.reduceLT, Nat.reduceEqDiff, Nat.reduceAdd, Nat.reduceBEq, ST] <;> exact see8f890) ?_; simp (maxSteps := 400000) (dsimp := false) only [axs, axw, aresL, afill, Value.oneCell', Nat.reduceLT, Nat.reduceLeDiff, Nat.reduceEqDiff, Nat.reduceAdd, Nat.reduceMul, Nat.reduceSub, Nat.reduceBEq, Int.reduceLE, Int.reduceLT, Int.reduceToNat, Int.reduceNeg, Int.reduceEq, axt, ftK, ft3, AAll, ftQ, ST, tys]
  cases hf : fewO l with
  | false =>
    rw [hf] at cf
    refine ACallK.strict rfl (cf) (by simp only [SeesL, axs, axt, AS.ev, AS.put, upd, inHeap, Nat.reduceLT, Nat.reduceEqDiff, Nat.reduceAdd, Nat.reduceBEq, ST] <;> exact see8f890) ?_; simp (maxSteps := 400000) (dsimp := false) only [axs, axw, aresL, afill, Value.oneCell', Nat.reduceLT, Nat.reduceLeDiff, Nat.reduceEqDiff, Nat.reduceAdd, Nat.reduceMul, Nat.reduceSub, Nat.reduceBEq, Int.reduceLE, Int.reduceLT, Int.reduceToNat, Int.reduceNeg, Int.reduceEq, axt, ftK, ft3, AAll, ftQ, ST, tys]
    exact ⟨_, rfl, Sees.sc⟩
  | true =>
    rw [hf] at cf
    obtain ⟨l60, hs⟩ := few_small hf hk
    obtain ⟨π, hp⟩ := polOf p0
    obtain ⟨r1, r2, r3, r4⟩ := runS_ok (π := π) k0 k1 l hs
    have hinv := runS_inv (π := π) k0 k1 l hs
    obtain ⟨n1, n2⟩ := run_wk (π := π) k0 k1 hs
    have cr := rRun (π := π) (1 + c.tmod 12) k0 k1 l (by omega) hs
    generalize runS π (1 + c.tmod 12) l = R at *
    obtain ⟨x, A⟩ := R
    simp only at r1 r2 r3 r4 hinv n1 n2 cr
    have ho : ∀ a ∈ A, a.out.length ≤ 1000 := fun a ha => by have := r4 a ha; omega
    have cw := cWrong l A (by omega) ho (by omega)
    have cl := cLeft l A (by omega) ho (by omega)
    rw [n1] at cw
    rw [n2] at cl
    have nd := hinv.nd
    unfold MS.av at cr
    rw [hp] at cr
    generalize π.cel x.s = X at *
    obtain ⟨s, P, h, m, ev⟩ := x
    simp only at cr cl nd r2
    clear hinv r1 n1 n2
    refine ACallK.strict rfl (cf) (by simp only [SeesL, w1, w2, w3, w4, w5, w6, axs, axt, AS.ev, AS.put, upd, inHeap, Nat.reduceLT, Nat.reduceEqDiff, Nat.reduceAdd, Nat.reduceBEq, ST] <;> exact see8f890) ?_; simp (maxSteps := 400000) (dsimp := false) only [w1, w2, w3, w4, w5, w6, axs, axw, aresL, afill, Value.oneCell', Nat.reduceLT, Nat.reduceLeDiff, Nat.reduceEqDiff, Nat.reduceAdd, Nat.reduceMul, Nat.reduceSub, Nat.reduceBEq, Int.reduceLE, Int.reduceLT, Int.reduceToNat, Int.reduceNeg, Int.reduceEq, axt, ftK, ft3, AAll, ftQ, ST, tys]
    refine ACallK.strict rfl (cr) (by simp only [SeesL, axs, axt, AS.ev, AS.put, upd, inHeap, Nat.reduceLT, Nat.reduceEqDiff, Nat.reduceAdd, Nat.reduceBEq, ST] <;> exact see8f890) ?_; simp (maxSteps := 400000) (dsimp := false) only [axs, axw, aresL, afill, Value.oneCell', Nat.reduceLT, Nat.reduceLeDiff, Nat.reduceEqDiff, Nat.reduceAdd, Nat.reduceMul, Nat.reduceSub, Nat.reduceBEq, Int.reduceLE, Int.reduceLT, Int.reduceToNat, Int.reduceNeg, Int.reduceEq, axt, ftK, ft3, AAll, ftQ, ST, tys]
    refine ACallK.strict rfl (cl) (by simp only [SeesL, PR_len, bne_self_eq_false, axs, axt, AS.ev, AS.put, upd, inHeap, Nat.reduceLT, Nat.reduceEqDiff, Nat.reduceAdd, Nat.reduceBEq, ST] <;> exact see8f890) ?_; simp (maxSteps := 400000) (dsimp := false) only [PR_len, bne_self_eq_false, axs, axw, aresL, afill, Value.oneCell', Nat.reduceLT, Nat.reduceLeDiff, Nat.reduceEqDiff, Nat.reduceAdd, Nat.reduceMul, Nat.reduceSub, Nat.reduceBEq, Int.reduceLE, Int.reduceLT, Int.reduceToNat, Int.reduceNeg, Int.reduceEq, axt, ftK, ft3, AAll, ftQ, ST, tys]
    refine ALoop.upto P.length (fun i s => s.t 2 = .lst 4 (OL l) ∧ s.t 7 = .sc (.bool true) ∧ s.t 8 = .lst 5 (AL A) ∧ s.t 9 = .ptr n 24 0 0 ∧ s.t 10 = .lst 2 (PR P) ∧ s.t 11 = .sc (.int .i64 i) ∧ s.H n = some (.obj 50 24 [[.sc (.int .i64 (1 + p.tmod 5)), X.a1.v, X.a2.v, X.a3.v, X.a4.v, X.a5.v, X.a6.v, X.a7.v, X.a8.v, X.a9.v, X.a10.v, X.a11.v, X.a12.v, X.a13.v, X.a14.v, X.a15.v, X.a16.v, X.a17.v, X.a18.v, X.a19.v, .lst 2 (PR P), .sc (.int .i64 h), .sc (.int .i64 m), .sc (.int .i64 ev)]] false)) ⟨rfl, rfl, rfl, rfl, rfl, rfl, upd_same _ _ _⟩ ?_
    rintro i s hi hb ⟨h2, h7, h8, h9, h10, h11, hH⟩
    rcases Nat.lt_or_ge i P.length with hlt | hge
    · obtain ⟨y, hy, hp0, hpl, hw, hT, hD⟩ := idx hlt (by omega)
      have hg := PR_get hy
      have cp := rPlace P y.1 (by omega)
      rw [idxK_self nd hy] at cp
      have hnl : ¬ (i : Int) < 0 := by omega
      simp (maxSteps := 400000) (dsimp := false) only [h2, h7, h8, h9, h10, h11, hpl, PR_len, axs, axw, aresL, afill, Value.oneCell', Nat.reduceLT, Nat.reduceLeDiff, Nat.reduceEqDiff, Nat.reduceAdd, Nat.reduceMul, Nat.reduceSub, Nat.reduceBEq, Int.reduceLE, Int.reduceLT, Int.reduceToNat, Int.reduceNeg, Int.reduceEq, axt, ftK, ft3, AAll, ftQ, ST, tys]
      refine ADraw.planR [] [(0, true), (1, true), (2, true), (3, true), (4, true), (5, true), (6, true), (7, true), (8, true)] [(0, false), (0, false), (0, false), (0, false), (0, false), (0, false), (0, false), (0, false), (0, false)] mixed (by kernel_rfl) (by kernel_rfl) ?_
      simp (maxSteps := 400000) (dsimp := false) only [h2, h7, h8, h9, h10, h11, hH, hp0, hpl, hg, PR_len, axs, axw, aresL, afill, Value.oneCell', Nat.reduceLT, Nat.reduceLeDiff, Nat.reduceEqDiff, Nat.reduceAdd, Nat.reduceMul, Nat.reduceSub, Nat.reduceBEq, Int.reduceLE, Int.reduceLT, Int.reduceToNat, Int.reduceNeg, Int.reduceEq, axt, ftK, ft3, AAll, ftQ, ST, tys]
      refine ACallP.pure rfl (cp) ?_; simp (maxSteps := 400000) (dsimp := false) only [h2, h7, h8, h9, h10, h11, axs, axw, aresL, afill, Value.oneCell', Nat.reduceLT, Nat.reduceLeDiff, Nat.reduceEqDiff, Nat.reduceAdd, Nat.reduceMul, Nat.reduceSub, Nat.reduceBEq, Int.reduceLE, Int.reduceLT, Int.reduceToNat, Int.reduceNeg, Int.reduceEq, axt, ftK, ft3, AAll, ftQ, ST, tys]
      refine ADraw.planR [12] [(0, true), (1, true), (2, true), (3, true), (4, true), (5, true), (6, true), (7, true), (8, true), (9, true), (10, true), (11, true), (12, true), (13, true)] [(0, false), (0, false), (0, false), (0, false), (0, false), (0, false), (0, false), (0, false), (0, false), (0, false), (0, false), (0, false), (0, true), (0, false)] mixed (by kernel_rfl) (by kernel_rfl) ?_
      simp (maxSteps := 400000) (dsimp := false) only [h2, h7, h8, h9, h10, h11, hH, hp0, hpl, hg, hnl, PR_len, axs, axw, aresL, afill, Value.oneCell', Nat.reduceLT, Nat.reduceLeDiff, Nat.reduceEqDiff, Nat.reduceAdd, Nat.reduceMul, Nat.reduceSub, Nat.reduceBEq, Int.reduceLE, Int.reduceLT, Int.reduceToNat, Int.reduceNeg, Int.reduceEq, axt, ftK, ft3, AAll, ftQ, ST, tys]
      refine ASoloK.x rfl rfl (AStepX.neS [some .u64, some .u64] rfl rfl rfl rfl rfl (by kernel_rfl) rfl rfl rfl) ?_; simp (maxSteps := 400000) (dsimp := false) only [sameSc, sameV, h2, h7, h8, h9, h10, h11, hw, axs, axw, aresL, afill, Value.oneCell', Nat.reduceLT, Nat.reduceLeDiff, Nat.reduceEqDiff, Nat.reduceAdd, Nat.reduceMul, Nat.reduceSub, Nat.reduceBEq, Int.reduceLE, Int.reduceLT, Int.reduceToNat, Int.reduceNeg, Int.reduceEq, axt, ftK, ft3, AAll, ftQ, ST, tys]
      exact ⟨hlt, hH⟩
    · have hpl : ¬ (i : Int) < P.length := by omega
      simp (maxSteps := 400000) (dsimp := false) only [h2, h7, h8, h9, h10, h11, hpl, PR_len, axs, axw, aresL, afill, Value.oneCell', Nat.reduceLT, Nat.reduceLeDiff, Nat.reduceEqDiff, Nat.reduceAdd, Nat.reduceMul, Nat.reduceSub, Nat.reduceBEq, Int.reduceLE, Int.reduceLT, Int.reduceToNat, Int.reduceNeg, Int.reduceEq, axt, ftK, ft3, AAll, ftQ, ST, tys]
      refine ACallK.strict rfl (cw) (by simp only [SeesL, axs, axt, AS.ev, AS.put, upd, inHeap, Nat.reduceLT, Nat.reduceEqDiff, Nat.reduceAdd, Nat.reduceBEq, ST] <;> exact see8f890) ?_; simp (maxSteps := 400000) (dsimp := false) only [axs, axw, aresL, afill, Value.oneCell', Nat.reduceLT, Nat.reduceLeDiff, Nat.reduceEqDiff, Nat.reduceAdd, Nat.reduceMul, Nat.reduceSub, Nat.reduceBEq, Int.reduceLE, Int.reduceLT, Int.reduceToNat, Int.reduceNeg, Int.reduceEq, axt, ftK, ft3, AAll, ftQ, ST, tys]
      exact ⟨_, rfl, Sees.sc⟩
end Go.Al
