/- Adaptive replacement: the reference. Conditions: the rows are short. Adaptive replacement: the reference's admission, and another capacity. Conditions: the rows are short. Adaptive replacement: another capacity, by the reference. Conditions: the rows are short. -/
import Derived.Test.YtkoimgeckkodhaaRqE
section
set_option linter.unusedVariables false
set_option linter.unusedSimpArgs false
set_option maxRecDepth 20000
set_option maxHeartbeats 3200000
-- axs, axw, aresL, afill, Value.oneCell', Nat.reduceLT, Nat.reduceLeDiff, Nat.reduceEqDiff, Nat.reduceAdd, Nat.reduceMul, Nat.reduceSub, Nat.reduceBEq, Int.reduceLE, Int.reduceLT, Int.reduceToNat, Int.reduceNeg, Int.reduceEq, axt, ftK, ft3, AAll, ftQ, S6, tys: S6
namespace Go.Al
open Go.Proofs
theorem rAKeys (s : ARC) (h1 : s.A.length ≤ 400000) (h2 : s.B.length ≤ 400000) : PCalls Try.prog 52 [SA s] (.lst 1 (U (s.A ++ s.B))) := by
  obtain ⟨C, P, A, B, D, E⟩ := s
  simp only at h1 h2
  have b1 : A.length * 8 ≤ 140737488355328 := by omega
  have b2 : A.length ≤ 1099511627776 := by omega
  have b3 : (A.length + B.length) * 8 ≤ 140737488355328 := by omega
  have b4 : A.length + B.length ≤ 1099511627776 := by omega
  refine PCalls.intro2 Try.func52 rfl rfl Try.ntmps52 Try.results52 (by simp) fun n => ?_; simp (maxSteps := 400000) (dsimp := false) only [SA, axs, axw, aresL, afill, Value.oneCell', Nat.reduceLT, Nat.reduceLeDiff, Nat.reduceEqDiff, Nat.reduceAdd, Nat.reduceMul, Nat.reduceSub, Nat.reduceBEq, Int.reduceLE, Int.reduceLT, Int.reduceToNat, Int.reduceNeg, Int.reduceEq, axt, ftK, ft3, AAll, ftQ, S6, tys]
  refine ADraw.tree [] [(1, true), (2, true), (4, true)] 4 (.fork [(0, true)] (.leaf [(3, true), (5, true), (6, true), (7, true)]) (.leaf [(5, true), (3, true), (6, true), (7, true)])) (.leaf [(5, true), (0, true), (3, true), (6, true), (7, true)]) mixed (by kernel_rfl) ?_
  simp (maxSteps := 400000) (dsimp := false) only [U_len, b1, b2, b3, b4, axs, axw, aresL, afill, Value.oneCell', Nat.reduceLT, Nat.reduceLeDiff, Nat.reduceEqDiff, Nat.reduceAdd, Nat.reduceMul, Nat.reduceSub, Nat.reduceBEq, Int.reduceLE, Int.reduceLT, Int.reduceToNat, Int.reduceNeg, Int.reduceEq, axt, ftK, ft3, AAll, ftQ, S6, tys]
  refine ⟨⟨⟨_, rfl, ?_⟩, ⟨_, rfl, ?_⟩⟩, ⟨_, rfl, ?_⟩⟩ <;> (rw [U_append]; refine Sees.obj ⟨_, _, if_pos rfl, rfl⟩ (by simp [U_len]) ?_; rw [← U_append]; exact noIdsE_U _)
theorem seeb7840 {p : Prop} (h : p := by repeat' (first | exact True.intro | exact Sees.sc | exact Sees.none | ((with_reducible refine Sees.same ?_) <;> simp [noIds, noIdsL, noIdsE, noIdsE_U, noIdsE_UU] <;> fail) | (refine Live.sees ?_ ?_ <;> first | assumption | (simp [noIdsE_U, noIdsE_UU] <;> fail)) | (refine Sees.obj ?_ ?_ ?_ <;> first | exact ⟨_, _, by assumption, rfl⟩ | (simp [U_len, UU_len] <;> fail) | (simp [noIdsE_U, noIdsE_UU] <;> fail) | (simp [U, UU, upd] <;> fail) | (simp [U, UU, upd, neS, *] <;> fail)) | (refine Sees.of_seen 3 ?_ <;> simp [seen, upd, noIdsE, noIdsL, noIds, U, UU, Nat.add_assoc] <;> fail) | refine Sees.agg ?_ | refine And.intro ?_ ?_ | simp only [SeesL])) : p := h
theorem seeb7841 {p : Prop} (h : p := by repeat' (first | exact True.intro | exact Sees.sc | exact Sees.none | ((with_reducible refine Sees.same ?_) <;> simp [noIds, noIdsL, noIdsE, noIdsE_U, noIdsE_UU] <;> fail) | (refine Live.sees ?_ ?_ <;> first | assumption | (simp [noIdsE_U, noIdsE_UU] <;> fail)) | (refine Sees.obj ?_ ?_ ?_ <;> first | exact ⟨_, _, by assumption, rfl⟩ | (simp [U_len, UU_len] <;> fail) | (simp [noIdsE_U, noIdsE_UU] <;> fail) | (simp [U, UU, upd, neS] <;> fail) | (simp [U, UU, upd, neS, *] <;> fail)) | refine Sees.agg ?_ | refine Sees.tup ?_ | refine And.intro ?_ ?_ | simp only [SeesL])) : p := h
theorem rATouch (s : ARC) (k : Int) (h1 : s.A.length ≤ 400000) (h2 : s.B.length ≤ 400000) : PCalls Try.prog 57 [SA s, .sc (.int .u64 k)] (SA (arcTouch s k)) := by
  have hk := rAKeys s h1 h2
  obtain ⟨C, P, A, B, D, E⟩ := s
  simp only at h1 h2 hk
  unfold arcTouch
  refine PCalls.intro2 Try.func57 rfl rfl Try.ntmps57 Try.results57 (by simp) fun n => ?_; simp (maxSteps := 400000) (dsimp := false) only [SA, axs, axw, aresL, afill, Value.oneCell', Nat.reduceLT, Nat.reduceLeDiff, Nat.reduceEqDiff, Nat.reduceAdd, Nat.reduceMul, Nat.reduceSub, Nat.reduceBEq, Int.reduceLE, Int.reduceLT, Int.reduceToNat, Int.reduceNeg, Int.reduceEq, axt, ftK, ft3, AAll, ftQ, S6, tys]
  refine ACallK.strict rfl (hk) (by simp only [SeesL, SA, axs, axt, AS.ev, AS.put, upd, inHeap, Nat.reduceLT, Nat.reduceEqDiff, Nat.reduceAdd, Nat.reduceBEq, S6]; exact seeb7840) ?_; simp (maxSteps := 400000) (dsimp := false) only [SA, axs, axw, aresL, afill, Value.oneCell', Nat.reduceLT, Nat.reduceLeDiff, Nat.reduceEqDiff, Nat.reduceAdd, Nat.reduceMul, Nat.reduceSub, Nat.reduceBEq, Int.reduceLE, Int.reduceLT, Int.reduceToNat, Int.reduceNeg, Int.reduceEq, axt, ftK, ft3, AAll, ftQ, S6, tys]
  by_cases h : k ∈ A ++ B
  · refine ACallK.strict rfl (rHas (A ++ B) k (by simp; omega)) (by simp only [SeesL, h, axs, axt, AS.ev, AS.put, upd, inHeap, Nat.reduceLT, Nat.reduceEqDiff, Nat.reduceAdd, Nat.reduceBEq, S6]; exact seeb7840) ?_; simp (maxSteps := 400000) (dsimp := false) only [h, axs, axw, aresL, afill, Value.oneCell', Nat.reduceLT, Nat.reduceLeDiff, Nat.reduceEqDiff, Nat.reduceAdd, Nat.reduceMul, Nat.reduceSub, Nat.reduceBEq, Int.reduceLE, Int.reduceLT, Int.reduceToNat, Int.reduceNeg, Int.reduceEq, axt, ftK, ft3, AAll, ftQ, S6, tys]
    refine ACallK.strict rfl (rWithout A k (by omega)) (by simp only [SeesL, axs, axt, AS.ev, AS.put, upd, inHeap, Nat.reduceLT, Nat.reduceEqDiff, Nat.reduceAdd, Nat.reduceBEq, S6]; exact seeb7840) ?_; simp (maxSteps := 400000) (dsimp := false) only [axs, axw, aresL, afill, Value.oneCell', Nat.reduceLT, Nat.reduceLeDiff, Nat.reduceEqDiff, Nat.reduceAdd, Nat.reduceMul, Nat.reduceSub, Nat.reduceBEq, Int.reduceLE, Int.reduceLT, Int.reduceToNat, Int.reduceNeg, Int.reduceEq, axt, ftK, ft3, AAll, ftQ, S6, tys]
    refine ACallK.strict rfl (rFront B k (by omega)) (by simp only [SeesL, axs, axt, AS.ev, AS.put, upd, inHeap, Nat.reduceLT, Nat.reduceEqDiff, Nat.reduceAdd, Nat.reduceBEq, S6]; exact seeb7840) ?_; simp (maxSteps := 400000) (dsimp := false) only [axs, axw, aresL, afill, Value.oneCell', Nat.reduceLT, Nat.reduceLeDiff, Nat.reduceEqDiff, Nat.reduceAdd, Nat.reduceMul, Nat.reduceSub, Nat.reduceBEq, Int.reduceLE, Int.reduceLT, Int.reduceToNat, Int.reduceNeg, Int.reduceEq, axt, ftK, ft3, AAll, ftQ, S6, tys]
    refine ⟨_, rfl, ?_⟩; simp (maxSteps := 400000) (dsimp := false) only [SeesL, h, axs, axw, aresL, afill, Value.oneCell', Nat.reduceLT, Nat.reduceLeDiff, Nat.reduceEqDiff, Nat.reduceAdd, Nat.reduceMul, Nat.reduceSub, Nat.reduceBEq, Int.reduceLE, Int.reduceLT, Int.reduceToNat, Int.reduceNeg, Int.reduceEq, axt, ftK, ft3, AAll, ftQ, S6, tys] <;> exact seeb7841
  · refine ACallK.strict rfl (rHas (A ++ B) k (by simp; omega)) (by simp only [SeesL, h, axs, axt, AS.ev, AS.put, upd, inHeap, Nat.reduceLT, Nat.reduceEqDiff, Nat.reduceAdd, Nat.reduceBEq, S6]; exact seeb7840) ?_; simp (maxSteps := 400000) (dsimp := false) only [h, axs, axw, aresL, afill, Value.oneCell', Nat.reduceLT, Nat.reduceLeDiff, Nat.reduceEqDiff, Nat.reduceAdd, Nat.reduceMul, Nat.reduceSub, Nat.reduceBEq, Int.reduceLE, Int.reduceLT, Int.reduceToNat, Int.reduceNeg, Int.reduceEq, axt, ftK, ft3, AAll, ftQ, S6, tys]
    refine ⟨_, rfl, ?_⟩; simp (maxSteps := 400000) (dsimp := false) only [SeesL, h, axs, axw, aresL, afill, Value.oneCell', Nat.reduceLT, Nat.reduceLeDiff, Nat.reduceEqDiff, Nat.reduceAdd, Nat.reduceMul, Nat.reduceSub, Nat.reduceBEq, Int.reduceLE, Int.reduceLT, Int.reduceToNat, Int.reduceNeg, Int.reduceEq, axt, ftK, ft3, AAll, ftQ, S6, tys] <;> exact seeb7841
theorem rADrop (s : ARC) (k : Int) (h1 : s.A.length ≤ 400000) (h2 : s.B.length ≤ 400000) (h3 : s.D.length ≤ 400000) (h4 : s.E.length ≤ 400000) : PCalls Try.prog 63 [SA s, .sc (.int .u64 k)] (SA (arcDrop s k)) := by
  obtain ⟨C, P, A, B, D, E⟩ := s
  simp only at h1 h2 h3 h4
  unfold arcDrop
  refine PCalls.intro2 Try.func63 rfl rfl Try.ntmps63 Try.results63 (by simp) fun n => ?_; simp (maxSteps := 400000) (dsimp := false) only [SA, axs, axw, aresL, afill, Value.oneCell', Nat.reduceLT, Nat.reduceLeDiff, Nat.reduceEqDiff, Nat.reduceAdd, Nat.reduceMul, Nat.reduceSub, Nat.reduceBEq, Int.reduceLE, Int.reduceLT, Int.reduceToNat, Int.reduceNeg, Int.reduceEq, axt, ftK, ft3, AAll, ftQ, S6, tys]
  refine ACallK.strict rfl (rWithout A k (by omega)) (by simp only [SeesL, axs, axt, AS.ev, AS.put, upd, inHeap, Nat.reduceLT, Nat.reduceEqDiff, Nat.reduceAdd, Nat.reduceBEq, S6]; exact seeb7840) ?_; simp (maxSteps := 400000) (dsimp := false) only [axs, axw, aresL, afill, Value.oneCell', Nat.reduceLT, Nat.reduceLeDiff, Nat.reduceEqDiff, Nat.reduceAdd, Nat.reduceMul, Nat.reduceSub, Nat.reduceBEq, Int.reduceLE, Int.reduceLT, Int.reduceToNat, Int.reduceNeg, Int.reduceEq, axt, ftK, ft3, AAll, ftQ, S6, tys]
  refine ACallK.strict rfl (rWithout B k (by omega)) (by simp only [SeesL, axs, axt, AS.ev, AS.put, upd, inHeap, Nat.reduceLT, Nat.reduceEqDiff, Nat.reduceAdd, Nat.reduceBEq, S6]; exact seeb7840) ?_; simp (maxSteps := 400000) (dsimp := false) only [axs, axw, aresL, afill, Value.oneCell', Nat.reduceLT, Nat.reduceLeDiff, Nat.reduceEqDiff, Nat.reduceAdd, Nat.reduceMul, Nat.reduceSub, Nat.reduceBEq, Int.reduceLE, Int.reduceLT, Int.reduceToNat, Int.reduceNeg, Int.reduceEq, axt, ftK, ft3, AAll, ftQ, S6, tys]
  refine ACallK.strict rfl (rWithout D k (by omega)) (by simp only [SeesL, axs, axt, AS.ev, AS.put, upd, inHeap, Nat.reduceLT, Nat.reduceEqDiff, Nat.reduceAdd, Nat.reduceBEq, S6]; exact seeb7840) ?_; simp (maxSteps := 400000) (dsimp := false) only [axs, axw, aresL, afill, Value.oneCell', Nat.reduceLT, Nat.reduceLeDiff, Nat.reduceEqDiff, Nat.reduceAdd, Nat.reduceMul, Nat.reduceSub, Nat.reduceBEq, Int.reduceLE, Int.reduceLT, Int.reduceToNat, Int.reduceNeg, Int.reduceEq, axt, ftK, ft3, AAll, ftQ, S6, tys]
  refine ACallK.strict rfl (rWithout E k (by omega)) (by simp only [SeesL, axs, axt, AS.ev, AS.put, upd, inHeap, Nat.reduceLT, Nat.reduceEqDiff, Nat.reduceAdd, Nat.reduceBEq, S6]; exact seeb7840) ?_; simp (maxSteps := 400000) (dsimp := false) only [axs, axw, aresL, afill, Value.oneCell', Nat.reduceLT, Nat.reduceLeDiff, Nat.reduceEqDiff, Nat.reduceAdd, Nat.reduceMul, Nat.reduceSub, Nat.reduceBEq, Int.reduceLE, Int.reduceLT, Int.reduceToNat, Int.reduceNeg, Int.reduceEq, axt, ftK, ft3, AAll, ftQ, S6, tys]
  refine ⟨_, rfl, ?_⟩; simp (maxSteps := 400000) (dsimp := false) only [SeesL, axs, axw, aresL, afill, Value.oneCell', Nat.reduceLT, Nat.reduceLeDiff, Nat.reduceEqDiff, Nat.reduceAdd, Nat.reduceMul, Nat.reduceSub, Nat.reduceBEq, Int.reduceLE, Int.reduceLT, Int.reduceToNat, Int.reduceNeg, Int.reduceEq, axt, ftK, ft3, AAll, ftQ, S6, tys] <;> exact seeb7841
theorem rAReplace (s : ARC) (again : Bool) (h1 : s.A.length ≤ 400000) (h2 : s.B.length ≤ 400000) (h3 : s.D.length ≤ 400000) (h4 : s.E.length ≤ 400000) (c0 : 1 ≤ s.C) :
    PCalls Try.prog 108 [SA s, .sc (.bool again)] (.tup [SA (arcReplace s again).1, .lst 1 (U (arcReplace s again).2)]) := by
  obtain ⟨C, P, A, B, D, E⟩ := s
  simp only at h1 h2 h3 h4 c0
  unfold arcReplace
  have w0 : IntKind.i64.wrap ((A.length : Int) + B.length) = (A.length : Int) + B.length := wrap_in (by omega) (by omega)
  refine PCalls.intro2 Try.func108 rfl rfl Try.ntmps108 Try.results108 (by simp) fun n => ?_; simp (maxSteps := 400000) (dsimp := false) only [SA, U_len, w0, axs, axw, aresL, afill, Value.oneCell', Nat.reduceLT, Nat.reduceLeDiff, Nat.reduceEqDiff, Nat.reduceAdd, Nat.reduceMul, Nat.reduceSub, Nat.reduceBEq, Int.reduceLE, Int.reduceLT, Int.reduceToNat, Int.reduceNeg, Int.reduceEq, axt, ftK, ft3, AAll, ftQ, S6, tys]
  by_cases hc : (A.length : Int) + B.length < C
  · simp (maxSteps := 400000) (dsimp := false) only [hc, axs, axw, aresL, afill, Value.oneCell', Nat.reduceLT, Nat.reduceLeDiff, Nat.reduceEqDiff, Nat.reduceAdd, Nat.reduceMul, Nat.reduceSub, Nat.reduceBEq, Int.reduceLE, Int.reduceLT, Int.reduceToNat, Int.reduceNeg, Int.reduceEq, axt, ftK, ft3, AAll, ftQ, S6, tys]
    refine ⟨_, rfl, ?_⟩; simp (maxSteps := 400000) (dsimp := false) only [SeesL, hc, axs, axw, aresL, afill, Value.oneCell', Nat.reduceLT, Nat.reduceLeDiff, Nat.reduceEqDiff, Nat.reduceAdd, Nat.reduceMul, Nat.reduceSub, Nat.reduceBEq, Int.reduceLE, Int.reduceLT, Int.reduceToNat, Int.reduceNeg, Int.reduceEq, axt, ftK, ft3, AAll, ftQ, S6, tys] <;> exact seeb7841
  · have dne : ∀ b, arcFrom ⟨C, P, A, B, D, E⟩ again = b → if b then A ≠ [] else B ≠ [] := by
      rintro _ rfl
      exact from_ne (s := ⟨C, P, A, B, D, E⟩) (by show 0 < A.length + B.length; omega)
    have hb0 : ((B.length : Int) = 0) = (B = []) := by simp
    simp (maxSteps := 400000) (dsimp := false) only [hc, AThen, ABlock, AScope, ax_skip, ax_label, ax_ret, ax_exit, ax_seq, ax_cond, ax_block, ax_scope, ACond_true, ACond_false, AS.ev, decide_true, decide_false, if_true, if_false, Nat.reduceEqDiff]
    refine ax_via (fun t => t.t 1 = .sc (.bool again) ∧ t.t 2 = .ptr n 6 0 0 ∧ t.t 4 = .ptr (n + 1) 6 0 0 ∧ t.t 6 = .sc (.bool (decide (B = []))) ∧ t.H n = some (.obj 43 6 [[.sc (.int .i64 C), .sc (.int .i64 P), .lst 1 (U A), .lst 1 (U B), .lst 1 (U D), .lst 1 (U E)]] false) ∧ t.H (n + 1) = some (.obj 43 6 [[.sc (.int .i64 0), .sc (.int .i64 0), .sc (.slice none 0 0), .sc (.slice none 0 0), .sc (.slice none 0 0), .sc (.slice none 0 0)]] false)) ?_ ?_
    · simp (maxSteps := 400000) (dsimp := false) only [U_len, hb0, axs, axw, aresL, afill, Value.oneCell', Nat.reduceLT, Nat.reduceLeDiff, Nat.reduceEqDiff, Nat.reduceAdd, Nat.reduceMul, Nat.reduceSub, Nat.reduceBEq, Int.reduceLE, Int.reduceLT, Int.reduceToNat, Int.reduceNeg, Int.reduceEq, axt, ftK, ft3, AAll, ftQ, S6, tys]
    rintro t ⟨e1, e2, e4, e6, en, en1⟩
    simp (maxSteps := 400000) (dsimp := false) only [AThen, ABlock, AScope, ax_skip, ax_label, ax_ret, ax_exit, ax_seq, ax_cond, ax_block, ax_scope, ACond_true, ACond_false, AS.ev, decide_true, decide_false, if_true, if_false, Nat.reduceEqDiff]
    have go : ∀ t : AS, t.t 2 = .ptr n 6 0 0 ∧ t.t 4 = .ptr (n + 1) 6 0 0 ∧ t.t 6 = .sc (.bool (arcFrom ⟨C, P, A, B, D, E⟩ again)) ∧ t.H n = some (.obj 43 6 [[.sc (.int .i64 C), .sc (.int .i64 P), .lst 1 (U A), .lst 1 (U B), .lst 1 (U D), .lst 1 (U E)]] false) ∧ t.H (n + 1) = some (.obj 43 6 [[.sc (.int .i64 0), .sc (.int .i64 0), .sc (.slice none 0 0), .sc (.slice none 0 0), .sc (.slice none 0 0), .sc (.slice none 0 0)]] false) → True := fun _ _ => trivial
    refine ax_via (fun t => t.t 2 = .ptr n 6 0 0 ∧ t.t 4 = .ptr (n + 1) 6 0 0 ∧ (t.t 6 = .sc (.bool (decide (B = []))) ∧ (t.t 44 = .sc (.bool true) ∧ arcFrom ⟨C, P, A, B, D, E⟩ again = true ∨ t.t 44 = .sc (.bool false) ∧ arcFrom ⟨C, P, A, B, D, E⟩ again = decide (B = []))) ∧ t.H n = some (.obj 43 6 [[.sc (.int .i64 C), .sc (.int .i64 P), .lst 1 (U A), .lst 1 (U B), .lst 1 (U D), .lst 1 (U E)]] false) ∧ t.H (n + 1) = some (.obj 43 6 [[.sc (.int .i64 0), .sc (.int .i64 0), .sc (.slice none 0 0), .sc (.slice none 0 0), .sc (.slice none 0 0), .sc (.slice none 0 0)]] false)) ?_ ?_
    · by_cases a0 : (A.length : Int) > 0
      · by_cases a1 : (A.length : Int) > P
        · have hf : arcFrom ⟨C, P, A, B, D, E⟩ again = true := decide_eq_true (.inl ⟨by show 0 < A.length; omega, .inl a1⟩)
          simp (maxSteps := 400000) (dsimp := false) only [e1, e2, e4, e6, en, en1, a0, a1, U_len, axs, axw, aresL, afill, Value.oneCell', Nat.reduceLT, Nat.reduceLeDiff, Nat.reduceEqDiff, Nat.reduceAdd, Nat.reduceMul, Nat.reduceSub, Nat.reduceBEq, Int.reduceLE, Int.reduceLT, Int.reduceToNat, Int.reduceNeg, Int.reduceEq, axt, ftK, ft3, AAll, ftQ, S6, tys]
          exact .inl hf
        · by_cases a2 : (A.length : Int) = P
          · have a3 : ((A.length : Int) = P) = True := eq_true a2
            cases again with
            | true =>
              have hf : arcFrom ⟨C, P, A, B, D, E⟩ true = true := decide_eq_true (.inl ⟨by show 0 < A.length; omega, .inr ⟨a2, rfl⟩⟩)
              simp (maxSteps := 400000) (dsimp := false) only [e1, e2, e4, e6, en, en1, a0, a1, a3, U_len, axs, axw, aresL, afill, Value.oneCell', Nat.reduceLT, Nat.reduceLeDiff, Nat.reduceEqDiff, Nat.reduceAdd, Nat.reduceMul, Nat.reduceSub, Nat.reduceBEq, Int.reduceLE, Int.reduceLT, Int.reduceToNat, Int.reduceNeg, Int.reduceEq, axt, ftK, ft3, AAll, ftQ, S6, tys]
              exact .inl hf
            | false =>
              have hf : arcFrom ⟨C, P, A, B, D, E⟩ false = decide (B = []) := by
                unfold arcFrom
                congr 1
                simp only [Bool.false_eq_true, and_false, or_false, a1, false_or]
              simp (maxSteps := 400000) (dsimp := false) only [e1, e2, e4, e6, en, en1, a0, a1, a3, U_len, axs, axw, aresL, afill, Value.oneCell', Nat.reduceLT, Nat.reduceLeDiff, Nat.reduceEqDiff, Nat.reduceAdd, Nat.reduceMul, Nat.reduceSub, Nat.reduceBEq, Int.reduceLE, Int.reduceLT, Int.reduceToNat, Int.reduceNeg, Int.reduceEq, axt, ftK, ft3, AAll, ftQ, S6, tys]
              exact .inr hf
          · have hf : arcFrom ⟨C, P, A, B, D, E⟩ again = decide (B = []) := by
              unfold arcFrom
              congr 1
              simp only [a2, false_and, or_false, a1, and_false, false_or]
            simp (maxSteps := 400000) (dsimp := false) only [e1, e2, e4, e6, en, en1, a0, a1, a2, U_len, axs, axw, aresL, afill, Value.oneCell', Nat.reduceLT, Nat.reduceLeDiff, Nat.reduceEqDiff, Nat.reduceAdd, Nat.reduceMul, Nat.reduceSub, Nat.reduceBEq, Int.reduceLE, Int.reduceLT, Int.reduceToNat, Int.reduceNeg, Int.reduceEq, axt, ftK, ft3, AAll, ftQ, S6, tys]
            exact .inr hf
      · have hf : arcFrom ⟨C, P, A, B, D, E⟩ again = decide (B = []) := by
          unfold arcFrom
          congr 1
          have : ¬ 0 < A.length := by omega
          simp only [this, false_and, false_or]
        simp (maxSteps := 400000) (dsimp := false) only [e1, e2, e4, e6, en, en1, a0, U_len, axs, axw, aresL, afill, Value.oneCell', Nat.reduceLT, Nat.reduceLeDiff, Nat.reduceEqDiff, Nat.reduceAdd, Nat.reduceMul, Nat.reduceSub, Nat.reduceBEq, Int.reduceLE, Int.reduceLT, Int.reduceToNat, Int.reduceNeg, Int.reduceEq, axt, ftK, ft3, AAll, ftQ, S6, tys]
        exact .inr hf
    clear go e1 e2 e4 e6 en en1 t
    rintro t ⟨e2, e4, ⟨e6, e44⟩, en, en1⟩
    have hcall := rAEvict ⟨C, P, A, B, D, E⟩ (arcFrom ⟨C, P, A, B, D, E⟩ again) h1 h2 h3 h4 (dne _ rfl)
    rcases e44 with ⟨e44, hf⟩ | ⟨e44, hf⟩
    · rw [hf] at hcall
      simp (maxSteps := 400000) (dsimp := false) only [e44, AThen, ABlock, AScope, ax_skip, ax_label, ax_ret, ax_exit, ax_seq, ax_cond, ax_block, ax_scope, ACond_true, ACond_false, AS.ev, decide_true, decide_false, if_true, if_false, Nat.reduceEqDiff]
      simp (maxSteps := 400000) (dsimp := false) only [e2, e4, e6, e44, en, en1, axs, axw, aresL, afill, Value.oneCell', Nat.reduceLT, Nat.reduceLeDiff, Nat.reduceEqDiff, Nat.reduceAdd, Nat.reduceMul, Nat.reduceSub, Nat.reduceBEq, Int.reduceLE, Int.reduceLT, Int.reduceToNat, Int.reduceNeg, Int.reduceEq, axt, ftK, ft3, AAll, ftQ, S6, tys]
      refine ACallK.strict rfl (hcall) (by simp only [SeesL, SA, e2, e4, e6, en, en1, axs, axt, AS.ev, AS.put, upd, inHeap, Nat.reduceLT, Nat.reduceEqDiff, Nat.reduceAdd, Nat.reduceBEq, S6]; exact seeb7840) ?_; simp (maxSteps := 400000) (dsimp := false) only [SA, e2, e4, e6, en, en1, axs, axw, aresL, afill, Value.oneCell', Nat.reduceLT, Nat.reduceLeDiff, Nat.reduceEqDiff, Nat.reduceAdd, Nat.reduceMul, Nat.reduceSub, Nat.reduceBEq, Int.reduceLE, Int.reduceLT, Int.reduceToNat, Int.reduceNeg, Int.reduceEq, axt, ftK, ft3, AAll, ftQ, S6, tys]
      refine ⟨_, rfl, ?_⟩; simp (maxSteps := 400000) (dsimp := false) only [SeesL, hc, hf, SA, axs, axw, aresL, afill, Value.oneCell', Nat.reduceLT, Nat.reduceLeDiff, Nat.reduceEqDiff, Nat.reduceAdd, Nat.reduceMul, Nat.reduceSub, Nat.reduceBEq, Int.reduceLE, Int.reduceLT, Int.reduceToNat, Int.reduceNeg, Int.reduceEq, axt, ftK, ft3, AAll, ftQ, S6, tys] <;> exact seeb7841
    · rw [hf] at hcall
      simp (maxSteps := 400000) (dsimp := false) only [e44, AThen, ABlock, AScope, ax_skip, ax_label, ax_ret, ax_exit, ax_seq, ax_cond, ax_block, ax_scope, ACond_true, ACond_false, AS.ev, decide_true, decide_false, if_true, if_false, Nat.reduceEqDiff]
      simp (maxSteps := 400000) (dsimp := false) only [e2, e4, e6, e44, en, en1, axs, axw, aresL, afill, Value.oneCell', Nat.reduceLT, Nat.reduceLeDiff, Nat.reduceEqDiff, Nat.reduceAdd, Nat.reduceMul, Nat.reduceSub, Nat.reduceBEq, Int.reduceLE, Int.reduceLT, Int.reduceToNat, Int.reduceNeg, Int.reduceEq, axt, ftK, ft3, AAll, ftQ, S6, tys]
      refine ACallK.strict rfl (hcall) (by simp only [SeesL, SA, e2, e4, e6, en, en1, axs, axt, AS.ev, AS.put, upd, inHeap, Nat.reduceLT, Nat.reduceEqDiff, Nat.reduceAdd, Nat.reduceBEq, S6]; exact seeb7840) ?_; simp (maxSteps := 400000) (dsimp := false) only [SA, e2, e4, e6, en, en1, axs, axw, aresL, afill, Value.oneCell', Nat.reduceLT, Nat.reduceLeDiff, Nat.reduceEqDiff, Nat.reduceAdd, Nat.reduceMul, Nat.reduceSub, Nat.reduceBEq, Int.reduceLE, Int.reduceLT, Int.reduceToNat, Int.reduceNeg, Int.reduceEq, axt, ftK, ft3, AAll, ftQ, S6, tys]
      refine ⟨_, rfl, ?_⟩; simp (maxSteps := 400000) (dsimp := false) only [SeesL, hc, hf, SA, axs, axw, aresL, afill, Value.oneCell', Nat.reduceLT, Nat.reduceLeDiff, Nat.reduceEqDiff, Nat.reduceAdd, Nat.reduceMul, Nat.reduceSub, Nat.reduceBEq, Int.reduceLE, Int.reduceLT, Int.reduceToNat, Int.reduceNeg, Int.reduceEq, axt, ftK, ft3, AAll, ftQ, S6, tys] <;> exact seeb7841
end Go.Al
end
section
set_option linter.unusedVariables false
set_option linter.unusedSimpArgs false
set_option maxRecDepth 20000
set_option maxHeartbeats 3200000
-- axs, axw, aresL, afill, Value.oneCell', Nat.reduceLT, Nat.reduceLeDiff, Nat.reduceEqDiff, Nat.reduceAdd, Nat.reduceMul, Nat.reduceSub, Nat.reduceBEq, Int.reduceLE, Int.reduceLT, Int.reduceToNat, Int.reduceNeg, Int.reduceEq, axt, ftK, ft3, AAll, ftQ, S6, tys: S6
namespace Go.Al
open Go.Proofs
theorem cutLast {l : List Int} (h : 0 < l.length) (hl : l.length ≤ 1000000) : IntKind.i64.wrap ((l.length : Int) - 1) = ((l.length - 1 : Nat) : Int) ∧ (0 : Int) ≤ ((l.length - 1 : Nat) : Int) ∧ ((l.length - 1 : Nat) : Int) ≤ l.length := by
  refine ⟨?_, by omega, by omega⟩
  rw [wrap_in (by omega) (by omega)]; omega
theorem see0f980 {p : Prop} (h : p := by repeat' (first | exact True.intro | exact Sees.sc | exact Sees.none | ((with_reducible refine Sees.same ?_) <;> simp [noIds, noIdsL, noIdsE, noIdsE_U, noIdsE_UU] <;> fail) | (refine Live.sees ?_ ?_ <;> first | assumption | (simp [noIdsE_U, noIdsE_UU] <;> fail)) | (refine Sees.obj ?_ ?_ ?_ <;> first | exact ⟨_, _, by assumption, rfl⟩ | (simp [U_len, UU_len] <;> fail) | (simp [noIdsE_U, noIdsE_UU] <;> fail) | (simp [U, UU, upd, neS] <;> fail) | (simp [U, UU, upd, neS, *] <;> fail)) | refine Sees.agg ?_ | refine Sees.tup ?_ | refine And.intro ?_ ?_ | simp only [SeesL])) : p := h
theorem see0f981 {p : Prop} (h : p := by repeat' (first | exact True.intro | exact Sees.sc | exact Sees.none | ((with_reducible refine Sees.same ?_) <;> simp [noIds, noIdsL, noIdsE, noIdsE_U, noIdsE_UU] <;> fail) | (refine Live.sees ?_ ?_ <;> first | assumption | (simp [noIdsE_U, noIdsE_UU] <;> fail)) | (refine Sees.obj ?_ ?_ ?_ <;> first | exact ⟨_, _, by assumption, rfl⟩ | (simp [U_len, UU_len] <;> fail) | (simp [noIdsE_U, noIdsE_UU] <;> fail) | (simp [U, UU, upd] <;> fail) | (simp [U, UU, upd, neS, *] <;> fail)) | (refine Sees.of_seen 3 ?_ <;> simp [seen, upd, noIdsE, noIdsL, noIds, U, UU, Nat.add_assoc] <;> fail) | refine Sees.agg ?_ | refine And.intro ?_ ?_ | simp only [SeesL])) : p := h
theorem rAFresh (s : ARC) (h1 : s.A.length ≤ 200000) (h2 : s.B.length ≤ 200000) (h3 : s.D.length ≤ 200000) (h4 : s.E.length ≤ 200000) (c0 : 1 ≤ s.C) (c1 : s.C ≤ 1048576) :
    PCalls Try.prog 102 [SA s] (.tup [SA (arcFresh s).1, .lst 1 (U (arcFresh s).2)]) := by
  obtain ⟨C, P, A, B, D, E⟩ := s
  simp only at h1 h2 h3 h4 c0 c1
  unfold arcFresh
  have w0 : IntKind.i64.wrap ((A.length : Int) + D.length) = (A.length : Int) + D.length := wrap_in (by omega) (by omega)
  have w1 : IntKind.i64.wrap ((A.length : Int) + B.length) = (A.length : Int) + B.length := wrap_in (by omega) (by omega)
  have w2 : IntKind.i64.wrap ((A.length : Int) + B.length + D.length) = (A.length : Int) + B.length + D.length := wrap_in (by omega) (by omega)
  have w3 : IntKind.i64.wrap ((A.length : Int) + B.length + D.length + E.length) = (A.length : Int) + B.length + D.length + E.length := wrap_in (by omega) (by omega)
  have w4 : IntKind.i64.wrap (2 * C) = 2 * C := wrap_in (by omega) (by omega)
  refine PCalls.intro2 Try.func102 rfl rfl Try.ntmps102 Try.results102 (by simp) fun n => ?_; simp (maxSteps := 400000) (dsimp := false) only [SA, U_len, w0, axs, axw, aresL, afill, Value.oneCell', Nat.reduceLT, Nat.reduceLeDiff, Nat.reduceEqDiff, Nat.reduceAdd, Nat.reduceMul, Nat.reduceSub, Nat.reduceBEq, Int.reduceLE, Int.reduceLT, Int.reduceToNat, Int.reduceNeg, Int.reduceEq, axt, ftK, ft3, AAll, ftQ, S6, tys]
  by_cases c1 : (A.length : Int) + D.length < C
  · have c1' : ¬ (A.length : Int) + D.length ≥ C := by omega
    by_cases c2 : (A.length : Int) + B.length + D.length + E.length < C
    · simp (maxSteps := 400000) (dsimp := false) only [c1', U_len, w1, w2, w3, c2, axs, axw, aresL, afill, Value.oneCell', Nat.reduceLT, Nat.reduceLeDiff, Nat.reduceEqDiff, Nat.reduceAdd, Nat.reduceMul, Nat.reduceSub, Nat.reduceBEq, Int.reduceLE, Int.reduceLT, Int.reduceToNat, Int.reduceNeg, Int.reduceEq, axt, ftK, ft3, AAll, ftQ, S6, tys]
      refine ⟨_, rfl, ?_⟩; simp (maxSteps := 400000) (dsimp := false) only [SeesL, c1, c2, axs, axw, aresL, afill, Value.oneCell', Nat.reduceLT, Nat.reduceLeDiff, Nat.reduceEqDiff, Nat.reduceAdd, Nat.reduceMul, Nat.reduceSub, Nat.reduceBEq, Int.reduceLE, Int.reduceLT, Int.reduceToNat, Int.reduceNeg, Int.reduceEq, axt, ftK, ft3, AAll, ftQ, S6, tys] <;> exact see0f980
    · by_cases c3 : (A.length : Int) + B.length + D.length + E.length ≥ 2 * C
      · by_cases c4 : (E.length : Int) > 0
        · obtain ⟨v1, v2, v3⟩ := cutLast (l := E) (by omega) (by omega)
          simp (maxSteps := 400000) (dsimp := false) only [c1', U_len, w1, w2, w3, w4, c2, c3, c4, v1, v2, v3, U_take, axs, axw, aresL, afill, Value.oneCell', Nat.reduceLT, Nat.reduceLeDiff, Nat.reduceEqDiff, Nat.reduceAdd, Nat.reduceMul, Nat.reduceSub, Nat.reduceBEq, Int.reduceLE, Int.reduceLT, Int.reduceToNat, Int.reduceNeg, Int.reduceEq, axt, ftK, ft3, AAll, ftQ, S6, tys]
          refine ACallK.strict rfl (rAReplace ⟨C, P, A, B, D, E.take (E.length - 1)⟩ false (by show A.length ≤ _; omega) (by show B.length ≤ _; omega) (by show D.length ≤ _; omega) (by show (E.take (E.length - 1)).length ≤ _; rw [List.length_take]; omega) c0) (by simp only [SeesL, SA, U_take, axs, axt, AS.ev, AS.put, upd, inHeap, Nat.reduceLT, Nat.reduceEqDiff, Nat.reduceAdd, Nat.reduceBEq, S6]; exact see0f981) ?_; simp (maxSteps := 400000) (dsimp := false) only [SA, U_take, axs, axw, aresL, afill, Value.oneCell', Nat.reduceLT, Nat.reduceLeDiff, Nat.reduceEqDiff, Nat.reduceAdd, Nat.reduceMul, Nat.reduceSub, Nat.reduceBEq, Int.reduceLE, Int.reduceLT, Int.reduceToNat, Int.reduceNeg, Int.reduceEq, axt, ftK, ft3, AAll, ftQ, S6, tys]
          refine ⟨_, rfl, ?_⟩; simp (maxSteps := 400000) (dsimp := false) only [SeesL, c1, c2, c3, SA, axs, axw, aresL, afill, Value.oneCell', Nat.reduceLT, Nat.reduceLeDiff, Nat.reduceEqDiff, Nat.reduceAdd, Nat.reduceMul, Nat.reduceSub, Nat.reduceBEq, Int.reduceLE, Int.reduceLT, Int.reduceToNat, Int.reduceNeg, Int.reduceEq, axt, ftK, ft3, AAll, ftQ, S6, tys] <;> exact see0f980
        · have hT : E.take (E.length - 1) = E := by have : E = [] := List.length_eq_zero_iff.1 (by omega); rw [this]; rfl
          simp (maxSteps := 400000) (dsimp := false) only [c1', U_len, w1, w2, w3, w4, c2, c3, c4, axs, axw, aresL, afill, Value.oneCell', Nat.reduceLT, Nat.reduceLeDiff, Nat.reduceEqDiff, Nat.reduceAdd, Nat.reduceMul, Nat.reduceSub, Nat.reduceBEq, Int.reduceLE, Int.reduceLT, Int.reduceToNat, Int.reduceNeg, Int.reduceEq, axt, ftK, ft3, AAll, ftQ, S6, tys]
          refine ACallK.strict rfl (rAReplace ⟨C, P, A, B, D, E⟩ false (by show A.length ≤ _; omega) (by show B.length ≤ _; omega) (by show D.length ≤ _; omega) (by show E.length ≤ _; omega) c0) (by simp only [SeesL, SA, axs, axt, AS.ev, AS.put, upd, inHeap, Nat.reduceLT, Nat.reduceEqDiff, Nat.reduceAdd, Nat.reduceBEq, S6]; exact see0f981) ?_; simp (maxSteps := 400000) (dsimp := false) only [SA, axs, axw, aresL, afill, Value.oneCell', Nat.reduceLT, Nat.reduceLeDiff, Nat.reduceEqDiff, Nat.reduceAdd, Nat.reduceMul, Nat.reduceSub, Nat.reduceBEq, Int.reduceLE, Int.reduceLT, Int.reduceToNat, Int.reduceNeg, Int.reduceEq, axt, ftK, ft3, AAll, ftQ, S6, tys]
          refine ⟨_, rfl, ?_⟩; simp (maxSteps := 400000) (dsimp := false) only [SeesL, c1, c2, c3, SA, hT, axs, axw, aresL, afill, Value.oneCell', Nat.reduceLT, Nat.reduceLeDiff, Nat.reduceEqDiff, Nat.reduceAdd, Nat.reduceMul, Nat.reduceSub, Nat.reduceBEq, Int.reduceLE, Int.reduceLT, Int.reduceToNat, Int.reduceNeg, Int.reduceEq, axt, ftK, ft3, AAll, ftQ, S6, tys] <;> exact see0f980
      · simp (maxSteps := 400000) (dsimp := false) only [c1', U_len, w1, w2, w3, w4, c2, c3, axs, axw, aresL, afill, Value.oneCell', Nat.reduceLT, Nat.reduceLeDiff, Nat.reduceEqDiff, Nat.reduceAdd, Nat.reduceMul, Nat.reduceSub, Nat.reduceBEq, Int.reduceLE, Int.reduceLT, Int.reduceToNat, Int.reduceNeg, Int.reduceEq, axt, ftK, ft3, AAll, ftQ, S6, tys]
        refine ACallK.strict rfl (rAReplace ⟨C, P, A, B, D, E⟩ false (by show A.length ≤ _; omega) (by show B.length ≤ _; omega) (by show D.length ≤ _; omega) (by show E.length ≤ _; omega) c0) (by simp only [SeesL, SA, axs, axt, AS.ev, AS.put, upd, inHeap, Nat.reduceLT, Nat.reduceEqDiff, Nat.reduceAdd, Nat.reduceBEq, S6]; exact see0f981) ?_; simp (maxSteps := 400000) (dsimp := false) only [SA, axs, axw, aresL, afill, Value.oneCell', Nat.reduceLT, Nat.reduceLeDiff, Nat.reduceEqDiff, Nat.reduceAdd, Nat.reduceMul, Nat.reduceSub, Nat.reduceBEq, Int.reduceLE, Int.reduceLT, Int.reduceToNat, Int.reduceNeg, Int.reduceEq, axt, ftK, ft3, AAll, ftQ, S6, tys]
        refine ⟨_, rfl, ?_⟩; simp (maxSteps := 400000) (dsimp := false) only [SeesL, c1, c2, c3, SA, axs, axw, aresL, afill, Value.oneCell', Nat.reduceLT, Nat.reduceLeDiff, Nat.reduceEqDiff, Nat.reduceAdd, Nat.reduceMul, Nat.reduceSub, Nat.reduceBEq, Int.reduceLE, Int.reduceLT, Int.reduceToNat, Int.reduceNeg, Int.reduceEq, axt, ftK, ft3, AAll, ftQ, S6, tys] <;> exact see0f980
  · have c1' : (A.length : Int) + D.length ≥ C := by omega
    by_cases c2 : (A.length : Int) < C
    · obtain ⟨v1, v2, v3⟩ := cutLast (l := D) (by omega) (by omega)
      simp (maxSteps := 400000) (dsimp := false) only [c1', c2, U_len, v1, v2, v3, U_take, axs, axw, aresL, afill, Value.oneCell', Nat.reduceLT, Nat.reduceLeDiff, Nat.reduceEqDiff, Nat.reduceAdd, Nat.reduceMul, Nat.reduceSub, Nat.reduceBEq, Int.reduceLE, Int.reduceLT, Int.reduceToNat, Int.reduceNeg, Int.reduceEq, axt, ftK, ft3, AAll, ftQ, S6, tys]
      refine ACallK.strict rfl (rAReplace ⟨C, P, A, B, D.take (D.length - 1), E⟩ false (by show A.length ≤ _; omega) (by show B.length ≤ _; omega) (by show (D.take (D.length - 1)).length ≤ _; rw [List.length_take]; omega) (by show E.length ≤ _; omega) c0) (by simp only [SeesL, SA, U_take, axs, axt, AS.ev, AS.put, upd, inHeap, Nat.reduceLT, Nat.reduceEqDiff, Nat.reduceAdd, Nat.reduceBEq, S6]; exact see0f981) ?_; simp (maxSteps := 400000) (dsimp := false) only [SA, U_take, axs, axw, aresL, afill, Value.oneCell', Nat.reduceLT, Nat.reduceLeDiff, Nat.reduceEqDiff, Nat.reduceAdd, Nat.reduceMul, Nat.reduceSub, Nat.reduceBEq, Int.reduceLE, Int.reduceLT, Int.reduceToNat, Int.reduceNeg, Int.reduceEq, axt, ftK, ft3, AAll, ftQ, S6, tys]
      refine ⟨_, rfl, ?_⟩; simp (maxSteps := 400000) (dsimp := false) only [SeesL, c1, c2, SA, axs, axw, aresL, afill, Value.oneCell', Nat.reduceLT, Nat.reduceLeDiff, Nat.reduceEqDiff, Nat.reduceAdd, Nat.reduceMul, Nat.reduceSub, Nat.reduceBEq, Int.reduceLE, Int.reduceLT, Int.reduceToNat, Int.reduceNeg, Int.reduceEq, axt, ftK, ft3, AAll, ftQ, S6, tys] <;> exact see0f980
    · have hA : A ≠ [] := ne_len.2 (by omega)
      obtain ⟨v1, v2, v3⟩ := cutLast (l := A) (by omega) (by omega)
      simp (maxSteps := 400000) (dsimp := false) only [c1', c2, U_len, axs, axw, aresL, afill, Value.oneCell', Nat.reduceLT, Nat.reduceLeDiff, Nat.reduceEqDiff, Nat.reduceAdd, Nat.reduceMul, Nat.reduceSub, Nat.reduceBEq, Int.reduceLE, Int.reduceLT, Int.reduceToNat, Int.reduceNeg, Int.reduceEq, axt, ftK, ft3, AAll, ftQ, S6, tys]
      refine ACallK.strict rfl (rBack A (lastD A) (by omega) (lastD_get hA)) (by simp only [SeesL, U_len, v1, v2, v3, U_take, axs, axt, AS.ev, AS.put, upd, inHeap, Nat.reduceLT, Nat.reduceEqDiff, Nat.reduceAdd, Nat.reduceBEq, S6]; exact see0f981) ?_; simp (maxSteps := 400000) (dsimp := false) only [U_len, v1, v2, v3, U_take, axs, axw, aresL, afill, Value.oneCell', Nat.reduceLT, Nat.reduceLeDiff, Nat.reduceEqDiff, Nat.reduceAdd, Nat.reduceMul, Nat.reduceSub, Nat.reduceBEq, Int.reduceLE, Int.reduceLT, Int.reduceToNat, Int.reduceNeg, Int.reduceEq, axt, ftK, ft3, AAll, ftQ, S6, tys]
      refine ⟨_, rfl, ?_⟩; simp (maxSteps := 400000) (dsimp := false) only [SeesL, c1, c2, U_take, axs, axw, aresL, afill, Value.oneCell', Nat.reduceLT, Nat.reduceLeDiff, Nat.reduceEqDiff, Nat.reduceAdd, Nat.reduceMul, Nat.reduceSub, Nat.reduceBEq, Int.reduceLE, Int.reduceLT, Int.reduceToNat, Int.reduceNeg, Int.reduceEq, axt, ftK, ft3, AAll, ftQ, S6, tys] <;> exact see0f980
theorem rAAdmit (s : ARC) (k : Int) (h1 : s.A.length ≤ 190000) (h2 : s.B.length ≤ 190000) (h3 : s.D.length ≤ 190000) (h4 : s.E.length ≤ 190000) (c0 : 1 ≤ s.C) (c1 : s.C ≤ 1048576) (p0 : 0 ≤ s.P) (p1 : s.P ≤ s.C) :
    PCalls Try.prog 85 [SA s, .sc (.int .u64 k)] (.tup [SA (arcAdmit s k).1, .lst 1 (U (arcAdmit s k).2)]) := by
  have l1 := arcReplace_len ⟨s.C, arcUp s, s.A, s.B, without s.D k, s.E⟩ false
  have l2 := arcReplace_len ⟨s.C, arcDown s, s.A, s.B, s.D, without s.E k⟩ true
  have l3 := arcFresh_len s
  have hfr := rAFresh s (by omega) (by omega) (by omega) (by omega) c0 c1
  have lw1 := without_len s.D k
  have lw2 := without_len s.E k
  have hr1 := rAReplace ⟨s.C, arcUp s, s.A, s.B, without s.D k, s.E⟩ false (by show s.A.length ≤ _; omega) (by show s.B.length ≤ _; omega) (by show (without s.D k).length ≤ _; omega) (by show s.E.length ≤ _; omega) c0
  have hr2 := rAReplace ⟨s.C, arcDown s, s.A, s.B, s.D, without s.E k⟩ true (by show s.A.length ≤ _; omega) (by show s.B.length ≤ _; omega) (by show s.D.length ≤ _; omega) (by show (without s.E k).length ≤ _; omega) c0
  have hkeys := rAKeys s (by omega) (by omega)
  unfold arcAdmit
  generalize arcReplace ⟨s.C, arcUp s, s.A, s.B, without s.D k, s.E⟩ false = R1 at *
  generalize arcReplace ⟨s.C, arcDown s, s.A, s.B, s.D, without s.E k⟩ true = R2 at *
  generalize arcFresh s = R3 at *
  obtain ⟨C, P, A, B, D, E⟩ := s
  simp only at h1 h2 h3 h4 c0 c1 p0 p1 l1 l2 l3 hr1 hr2 hkeys
  have known1 : k ∈ D → PCalls Try.prog 101 [SA ⟨C, P, A, B, D, E⟩, .sc (.int .u64 k), .sc (.bool false)] (.tup [SA ⟨R1.1.C, R1.1.P, R1.1.A, k :: without R1.1.B k, R1.1.D, R1.1.E⟩, .lst 1 (U R1.2)]) := by
    intro hD
    have hD0 : 0 < D.length := List.length_pos_iff.2 (List.ne_nil_of_mem hD)
    have hD1 : ¬ (D.length : Int) = 0 := by omega
    have hq := tdiv_le (a := E.length) hD0
    have w1 : IntKind.i64.wrap ((E.length : Int).tdiv D.length) = (E.length : Int).tdiv D.length := wrap_in hq.1 (by omega)
    have hmx : (if (1 : Int) > (E.length : Int).tdiv D.length then (1 : Int) else (E.length : Int).tdiv D.length) = mx1 ((E.length : Int).tdiv D.length) := rfl
    have hmb : mx1 ((E.length : Int).tdiv D.length) ≤ 190001 := by unfold mx1; split <;> omega
    have hma := mx1_le ((E.length : Int).tdiv D.length)
    have w2 : IntKind.i64.wrap (P + mx1 ((E.length : Int).tdiv D.length)) = P + mx1 ((E.length : Int).tdiv D.length) := wrap_in (by omega) (by omega)
    refine PCalls.intro2 Try.func101 rfl rfl Try.ntmps101 Try.results101 (by simp) fun n => ?_; simp (maxSteps := 400000) (dsimp := false) only [SA, U_len, axs, axw, aresL, afill, Value.oneCell', Nat.reduceLT, Nat.reduceLeDiff, Nat.reduceEqDiff, Nat.reduceAdd, Nat.reduceMul, Nat.reduceSub, Nat.reduceBEq, Int.reduceLE, Int.reduceLT, Int.reduceToNat, Int.reduceNeg, Int.reduceEq, axt, ftK, ft3, AAll, ftQ, S6, tys]
    refine ADraw.planR [] [(0, true), (1, true), (2, true), (3, true), (4, true), (5, true), (6, true), (7, true), (8, true)] [(0, false), (0, false), (0, false), (0, false), (0, false), (0, false), (0, false), (0, false), (0, false)] mixed (by kernel_rfl) (by kernel_rfl) ?_
    by_cases hcm : P + mx1 ((E.length : Int).tdiv D.length) > C
    · have hup : arcUp ⟨C, P, A, B, D, E⟩ = C := if_pos hcm
      rw [hup] at hr1
      simp (maxSteps := 400000) (dsimp := false) only [hD1, w1, hmx, w2, hcm, axs, axw, aresL, afill, Value.oneCell', Nat.reduceLT, Nat.reduceLeDiff, Nat.reduceEqDiff, Nat.reduceAdd, Nat.reduceMul, Nat.reduceSub, Nat.reduceBEq, Int.reduceLE, Int.reduceLT, Int.reduceToNat, Int.reduceNeg, Int.reduceEq, axt, ftK, ft3, AAll, ftQ, S6, tys]
      refine ACallK.strict rfl (rWithout D k (by omega)) (by simp only [SeesL, axs, axt, AS.ev, AS.put, upd, inHeap, Nat.reduceLT, Nat.reduceEqDiff, Nat.reduceAdd, Nat.reduceBEq, S6]; exact see0f981) ?_; simp (maxSteps := 400000) (dsimp := false) only [axs, axw, aresL, afill, Value.oneCell', Nat.reduceLT, Nat.reduceLeDiff, Nat.reduceEqDiff, Nat.reduceAdd, Nat.reduceMul, Nat.reduceSub, Nat.reduceBEq, Int.reduceLE, Int.reduceLT, Int.reduceToNat, Int.reduceNeg, Int.reduceEq, axt, ftK, ft3, AAll, ftQ, S6, tys]
      refine ACallK.strict rfl (hr1) (by simp only [SeesL, SA, axs, axt, AS.ev, AS.put, upd, inHeap, Nat.reduceLT, Nat.reduceEqDiff, Nat.reduceAdd, Nat.reduceBEq, S6]; exact see0f981) ?_; simp (maxSteps := 400000) (dsimp := false) only [SA, axs, axw, aresL, afill, Value.oneCell', Nat.reduceLT, Nat.reduceLeDiff, Nat.reduceEqDiff, Nat.reduceAdd, Nat.reduceMul, Nat.reduceSub, Nat.reduceBEq, Int.reduceLE, Int.reduceLT, Int.reduceToNat, Int.reduceNeg, Int.reduceEq, axt, ftK, ft3, AAll, ftQ, S6, tys]
      refine ACallK.strict rfl (rFront R1.1.B k (by omega)) (by simp only [SeesL, axs, axt, AS.ev, AS.put, upd, inHeap, Nat.reduceLT, Nat.reduceEqDiff, Nat.reduceAdd, Nat.reduceBEq, S6]; exact see0f981) ?_; simp (maxSteps := 400000) (dsimp := false) only [axs, axw, aresL, afill, Value.oneCell', Nat.reduceLT, Nat.reduceLeDiff, Nat.reduceEqDiff, Nat.reduceAdd, Nat.reduceMul, Nat.reduceSub, Nat.reduceBEq, Int.reduceLE, Int.reduceLT, Int.reduceToNat, Int.reduceNeg, Int.reduceEq, axt, ftK, ft3, AAll, ftQ, S6, tys]
      refine ⟨_, rfl, ?_⟩; simp (maxSteps := 400000) (dsimp := false) only [SeesL, axs, axw, aresL, afill, Value.oneCell', Nat.reduceLT, Nat.reduceLeDiff, Nat.reduceEqDiff, Nat.reduceAdd, Nat.reduceMul, Nat.reduceSub, Nat.reduceBEq, Int.reduceLE, Int.reduceLT, Int.reduceToNat, Int.reduceNeg, Int.reduceEq, axt, ftK, ft3, AAll, ftQ, S6, tys] <;> exact see0f980
    · have hup : arcUp ⟨C, P, A, B, D, E⟩ = P + mx1 ((E.length : Int).tdiv D.length) := if_neg hcm
      rw [hup] at hr1
      simp (maxSteps := 400000) (dsimp := false) only [hD1, w1, hmx, w2, hcm, axs, axw, aresL, afill, Value.oneCell', Nat.reduceLT, Nat.reduceLeDiff, Nat.reduceEqDiff, Nat.reduceAdd, Nat.reduceMul, Nat.reduceSub, Nat.reduceBEq, Int.reduceLE, Int.reduceLT, Int.reduceToNat, Int.reduceNeg, Int.reduceEq, axt, ftK, ft3, AAll, ftQ, S6, tys]
      refine ACallK.strict rfl (rWithout D k (by omega)) (by simp only [SeesL, axs, axt, AS.ev, AS.put, upd, inHeap, Nat.reduceLT, Nat.reduceEqDiff, Nat.reduceAdd, Nat.reduceBEq, S6]; exact see0f981) ?_; simp (maxSteps := 400000) (dsimp := false) only [axs, axw, aresL, afill, Value.oneCell', Nat.reduceLT, Nat.reduceLeDiff, Nat.reduceEqDiff, Nat.reduceAdd, Nat.reduceMul, Nat.reduceSub, Nat.reduceBEq, Int.reduceLE, Int.reduceLT, Int.reduceToNat, Int.reduceNeg, Int.reduceEq, axt, ftK, ft3, AAll, ftQ, S6, tys]
      refine ACallK.strict rfl (hr1) (by simp only [SeesL, SA, axs, axt, AS.ev, AS.put, upd, inHeap, Nat.reduceLT, Nat.reduceEqDiff, Nat.reduceAdd, Nat.reduceBEq, S6]; exact see0f981) ?_; simp (maxSteps := 400000) (dsimp := false) only [SA, axs, axw, aresL, afill, Value.oneCell', Nat.reduceLT, Nat.reduceLeDiff, Nat.reduceEqDiff, Nat.reduceAdd, Nat.reduceMul, Nat.reduceSub, Nat.reduceBEq, Int.reduceLE, Int.reduceLT, Int.reduceToNat, Int.reduceNeg, Int.reduceEq, axt, ftK, ft3, AAll, ftQ, S6, tys]
      refine ACallK.strict rfl (rFront R1.1.B k (by omega)) (by simp only [SeesL, axs, axt, AS.ev, AS.put, upd, inHeap, Nat.reduceLT, Nat.reduceEqDiff, Nat.reduceAdd, Nat.reduceBEq, S6]; exact see0f981) ?_; simp (maxSteps := 400000) (dsimp := false) only [axs, axw, aresL, afill, Value.oneCell', Nat.reduceLT, Nat.reduceLeDiff, Nat.reduceEqDiff, Nat.reduceAdd, Nat.reduceMul, Nat.reduceSub, Nat.reduceBEq, Int.reduceLE, Int.reduceLT, Int.reduceToNat, Int.reduceNeg, Int.reduceEq, axt, ftK, ft3, AAll, ftQ, S6, tys]
      refine ⟨_, rfl, ?_⟩; simp (maxSteps := 400000) (dsimp := false) only [SeesL, axs, axw, aresL, afill, Value.oneCell', Nat.reduceLT, Nat.reduceLeDiff, Nat.reduceEqDiff, Nat.reduceAdd, Nat.reduceMul, Nat.reduceSub, Nat.reduceBEq, Int.reduceLE, Int.reduceLT, Int.reduceToNat, Int.reduceNeg, Int.reduceEq, axt, ftK, ft3, AAll, ftQ, S6, tys] <;> exact see0f980
  have known2 : k ∈ E → PCalls Try.prog 101 [SA ⟨C, P, A, B, D, E⟩, .sc (.int .u64 k), .sc (.bool true)] (.tup [SA ⟨R2.1.C, R2.1.P, R2.1.A, k :: without R2.1.B k, R2.1.D, R2.1.E⟩, .lst 1 (U R2.2)]) := by
    intro hE
    have hE0 : 0 < E.length := List.length_pos_iff.2 (List.ne_nil_of_mem hE)
    have hE1 : ¬ (E.length : Int) = 0 := by omega
    have hq := tdiv_le (a := D.length) hE0
    have w1 : IntKind.i64.wrap ((D.length : Int).tdiv E.length) = (D.length : Int).tdiv E.length := wrap_in hq.1 (by omega)
    have hmx : (if (1 : Int) > (D.length : Int).tdiv E.length then (1 : Int) else (D.length : Int).tdiv E.length) = mx1 ((D.length : Int).tdiv E.length) := rfl
    have hmb : mx1 ((D.length : Int).tdiv E.length) ≤ 190001 := by unfold mx1; split <;> omega
    have hma := mx1_le ((D.length : Int).tdiv E.length)
    have w2 : IntKind.i64.wrap (P - mx1 ((D.length : Int).tdiv E.length)) = P - mx1 ((D.length : Int).tdiv E.length) := IntWalk.i64_in _ ⟨by omega, by omega⟩
    refine PCalls.intro2 Try.func101 rfl rfl Try.ntmps101 Try.results101 (by simp) fun n => ?_; simp (maxSteps := 400000) (dsimp := false) only [SA, U_len, axs, axw, aresL, afill, Value.oneCell', Nat.reduceLT, Nat.reduceLeDiff, Nat.reduceEqDiff, Nat.reduceAdd, Nat.reduceMul, Nat.reduceSub, Nat.reduceBEq, Int.reduceLE, Int.reduceLT, Int.reduceToNat, Int.reduceNeg, Int.reduceEq, axt, ftK, ft3, AAll, ftQ, S6, tys]
    refine ADraw.planR [] [(0, true), (1, true), (2, true), (3, true), (4, true), (5, true), (6, true), (7, true), (8, true)] [(0, false), (0, false), (0, false), (0, false), (0, false), (0, false), (0, false), (0, false), (0, false)] mixed (by kernel_rfl) (by kernel_rfl) ?_
    by_cases hcm : P - mx1 ((D.length : Int).tdiv E.length) < 0
    · have hup : arcDown ⟨C, P, A, B, D, E⟩ = 0 := if_pos hcm
      rw [hup] at hr2
      simp (maxSteps := 400000) (dsimp := false) only [hE1, w1, hmx, w2, hcm, axs, axw, aresL, afill, Value.oneCell', Nat.reduceLT, Nat.reduceLeDiff, Nat.reduceEqDiff, Nat.reduceAdd, Nat.reduceMul, Nat.reduceSub, Nat.reduceBEq, Int.reduceLE, Int.reduceLT, Int.reduceToNat, Int.reduceNeg, Int.reduceEq, axt, ftK, ft3, AAll, ftQ, S6, tys]
      refine ACallK.strict rfl (rWithout E k (by omega)) (by simp only [SeesL, axs, axt, AS.ev, AS.put, upd, inHeap, Nat.reduceLT, Nat.reduceEqDiff, Nat.reduceAdd, Nat.reduceBEq, S6]; exact see0f981) ?_; simp (maxSteps := 400000) (dsimp := false) only [axs, axw, aresL, afill, Value.oneCell', Nat.reduceLT, Nat.reduceLeDiff, Nat.reduceEqDiff, Nat.reduceAdd, Nat.reduceMul, Nat.reduceSub, Nat.reduceBEq, Int.reduceLE, Int.reduceLT, Int.reduceToNat, Int.reduceNeg, Int.reduceEq, axt, ftK, ft3, AAll, ftQ, S6, tys]
      refine ACallK.strict rfl (hr2) (by simp only [SeesL, SA, axs, axt, AS.ev, AS.put, upd, inHeap, Nat.reduceLT, Nat.reduceEqDiff, Nat.reduceAdd, Nat.reduceBEq, S6]; exact see0f981) ?_; simp (maxSteps := 400000) (dsimp := false) only [SA, axs, axw, aresL, afill, Value.oneCell', Nat.reduceLT, Nat.reduceLeDiff, Nat.reduceEqDiff, Nat.reduceAdd, Nat.reduceMul, Nat.reduceSub, Nat.reduceBEq, Int.reduceLE, Int.reduceLT, Int.reduceToNat, Int.reduceNeg, Int.reduceEq, axt, ftK, ft3, AAll, ftQ, S6, tys]
      refine ACallK.strict rfl (rFront R2.1.B k (by omega)) (by simp only [SeesL, axs, axt, AS.ev, AS.put, upd, inHeap, Nat.reduceLT, Nat.reduceEqDiff, Nat.reduceAdd, Nat.reduceBEq, S6]; exact see0f981) ?_; simp (maxSteps := 400000) (dsimp := false) only [axs, axw, aresL, afill, Value.oneCell', Nat.reduceLT, Nat.reduceLeDiff, Nat.reduceEqDiff, Nat.reduceAdd, Nat.reduceMul, Nat.reduceSub, Nat.reduceBEq, Int.reduceLE, Int.reduceLT, Int.reduceToNat, Int.reduceNeg, Int.reduceEq, axt, ftK, ft3, AAll, ftQ, S6, tys]
      refine ⟨_, rfl, ?_⟩; simp (maxSteps := 400000) (dsimp := false) only [SeesL, axs, axw, aresL, afill, Value.oneCell', Nat.reduceLT, Nat.reduceLeDiff, Nat.reduceEqDiff, Nat.reduceAdd, Nat.reduceMul, Nat.reduceSub, Nat.reduceBEq, Int.reduceLE, Int.reduceLT, Int.reduceToNat, Int.reduceNeg, Int.reduceEq, axt, ftK, ft3, AAll, ftQ, S6, tys] <;> exact see0f980
    · have hup : arcDown ⟨C, P, A, B, D, E⟩ = P - mx1 ((D.length : Int).tdiv E.length) := if_neg hcm
      rw [hup] at hr2
      simp (maxSteps := 400000) (dsimp := false) only [hE1, w1, hmx, w2, hcm, axs, axw, aresL, afill, Value.oneCell', Nat.reduceLT, Nat.reduceLeDiff, Nat.reduceEqDiff, Nat.reduceAdd, Nat.reduceMul, Nat.reduceSub, Nat.reduceBEq, Int.reduceLE, Int.reduceLT, Int.reduceToNat, Int.reduceNeg, Int.reduceEq, axt, ftK, ft3, AAll, ftQ, S6, tys]
      refine ACallK.strict rfl (rWithout E k (by omega)) (by simp only [SeesL, axs, axt, AS.ev, AS.put, upd, inHeap, Nat.reduceLT, Nat.reduceEqDiff, Nat.reduceAdd, Nat.reduceBEq, S6]; exact see0f981) ?_; simp (maxSteps := 400000) (dsimp := false) only [axs, axw, aresL, afill, Value.oneCell', Nat.reduceLT, Nat.reduceLeDiff, Nat.reduceEqDiff, Nat.reduceAdd, Nat.reduceMul, Nat.reduceSub, Nat.reduceBEq, Int.reduceLE, Int.reduceLT, Int.reduceToNat, Int.reduceNeg, Int.reduceEq, axt, ftK, ft3, AAll, ftQ, S6, tys]
      refine ACallK.strict rfl (hr2) (by simp only [SeesL, SA, axs, axt, AS.ev, AS.put, upd, inHeap, Nat.reduceLT, Nat.reduceEqDiff, Nat.reduceAdd, Nat.reduceBEq, S6]; exact see0f981) ?_; simp (maxSteps := 400000) (dsimp := false) only [SA, axs, axw, aresL, afill, Value.oneCell', Nat.reduceLT, Nat.reduceLeDiff, Nat.reduceEqDiff, Nat.reduceAdd, Nat.reduceMul, Nat.reduceSub, Nat.reduceBEq, Int.reduceLE, Int.reduceLT, Int.reduceToNat, Int.reduceNeg, Int.reduceEq, axt, ftK, ft3, AAll, ftQ, S6, tys]
      refine ACallK.strict rfl (rFront R2.1.B k (by omega)) (by simp only [SeesL, axs, axt, AS.ev, AS.put, upd, inHeap, Nat.reduceLT, Nat.reduceEqDiff, Nat.reduceAdd, Nat.reduceBEq, S6]; exact see0f981) ?_; simp (maxSteps := 400000) (dsimp := false) only [axs, axw, aresL, afill, Value.oneCell', Nat.reduceLT, Nat.reduceLeDiff, Nat.reduceEqDiff, Nat.reduceAdd, Nat.reduceMul, Nat.reduceSub, Nat.reduceBEq, Int.reduceLE, Int.reduceLT, Int.reduceToNat, Int.reduceNeg, Int.reduceEq, axt, ftK, ft3, AAll, ftQ, S6, tys]
      refine ⟨_, rfl, ?_⟩; simp (maxSteps := 400000) (dsimp := false) only [SeesL, axs, axw, aresL, afill, Value.oneCell', Nat.reduceLT, Nat.reduceLeDiff, Nat.reduceEqDiff, Nat.reduceAdd, Nat.reduceMul, Nat.reduceSub, Nat.reduceBEq, Int.reduceLE, Int.reduceLT, Int.reduceToNat, Int.reduceNeg, Int.reduceEq, axt, ftK, ft3, AAll, ftQ, S6, tys] <;> exact see0f980
  refine PCalls.intro2 Try.func85 rfl rfl Try.ntmps85 Try.results85 (by simp) fun n => ?_; simp (maxSteps := 400000) (dsimp := false) only [SA, axs, axw, aresL, afill, Value.oneCell', Nat.reduceLT, Nat.reduceLeDiff, Nat.reduceEqDiff, Nat.reduceAdd, Nat.reduceMul, Nat.reduceSub, Nat.reduceBEq, Int.reduceLE, Int.reduceLT, Int.reduceToNat, Int.reduceNeg, Int.reduceEq, axt, ftK, ft3, AAll, ftQ, S6, tys]
  refine ACallK.strict rfl (hkeys) (by simp only [SeesL, SA, axs, axt, AS.ev, AS.put, upd, inHeap, Nat.reduceLT, Nat.reduceEqDiff, Nat.reduceAdd, Nat.reduceBEq, S6]; exact see0f981) ?_; simp (maxSteps := 400000) (dsimp := false) only [SA, axs, axw, aresL, afill, Value.oneCell', Nat.reduceLT, Nat.reduceLeDiff, Nat.reduceEqDiff, Nat.reduceAdd, Nat.reduceMul, Nat.reduceSub, Nat.reduceBEq, Int.reduceLE, Int.reduceLT, Int.reduceToNat, Int.reduceNeg, Int.reduceEq, axt, ftK, ft3, AAll, ftQ, S6, tys]
  by_cases h : k ∈ A ++ B
  · refine ACallK.strict rfl (rHas (A ++ B) k (by simp; omega)) (by simp only [SeesL, h, axs, axt, AS.ev, AS.put, upd, inHeap, Nat.reduceLT, Nat.reduceEqDiff, Nat.reduceAdd, Nat.reduceBEq, S6]; exact see0f981) ?_; simp (maxSteps := 400000) (dsimp := false) only [h, axs, axw, aresL, afill, Value.oneCell', Nat.reduceLT, Nat.reduceLeDiff, Nat.reduceEqDiff, Nat.reduceAdd, Nat.reduceMul, Nat.reduceSub, Nat.reduceBEq, Int.reduceLE, Int.reduceLT, Int.reduceToNat, Int.reduceNeg, Int.reduceEq, axt, ftK, ft3, AAll, ftQ, S6, tys]
    refine ⟨_, rfl, ?_⟩; simp (maxSteps := 400000) (dsimp := false) only [SeesL, h, axs, axw, aresL, afill, Value.oneCell', Nat.reduceLT, Nat.reduceLeDiff, Nat.reduceEqDiff, Nat.reduceAdd, Nat.reduceMul, Nat.reduceSub, Nat.reduceBEq, Int.reduceLE, Int.reduceLT, Int.reduceToNat, Int.reduceNeg, Int.reduceEq, axt, ftK, ft3, AAll, ftQ, S6, tys] <;> exact see0f980
  · refine ACallK.strict rfl (rHas (A ++ B) k (by simp; omega)) (by simp only [SeesL, h, axs, axt, AS.ev, AS.put, upd, inHeap, Nat.reduceLT, Nat.reduceEqDiff, Nat.reduceAdd, Nat.reduceBEq, S6]; exact see0f981) ?_; simp (maxSteps := 400000) (dsimp := false) only [h, axs, axw, aresL, afill, Value.oneCell', Nat.reduceLT, Nat.reduceLeDiff, Nat.reduceEqDiff, Nat.reduceAdd, Nat.reduceMul, Nat.reduceSub, Nat.reduceBEq, Int.reduceLE, Int.reduceLT, Int.reduceToNat, Int.reduceNeg, Int.reduceEq, axt, ftK, ft3, AAll, ftQ, S6, tys]
    by_cases hD : k ∈ D
    · refine ACallK.strict rfl (rHas D k (by omega)) (by simp only [SeesL, hD, axs, axt, AS.ev, AS.put, upd, inHeap, Nat.reduceLT, Nat.reduceEqDiff, Nat.reduceAdd, Nat.reduceBEq, S6]; exact see0f981) ?_; simp (maxSteps := 400000) (dsimp := false) only [hD, axs, axw, aresL, afill, Value.oneCell', Nat.reduceLT, Nat.reduceLeDiff, Nat.reduceEqDiff, Nat.reduceAdd, Nat.reduceMul, Nat.reduceSub, Nat.reduceBEq, Int.reduceLE, Int.reduceLT, Int.reduceToNat, Int.reduceNeg, Int.reduceEq, axt, ftK, ft3, AAll, ftQ, S6, tys]
      refine ACallK.strict rfl (known1 hD) (by simp only [SeesL, SA, axs, axt, AS.ev, AS.put, upd, inHeap, Nat.reduceLT, Nat.reduceEqDiff, Nat.reduceAdd, Nat.reduceBEq, S6]; exact see0f981) ?_; simp (maxSteps := 400000) (dsimp := false) only [SA, axs, axw, aresL, afill, Value.oneCell', Nat.reduceLT, Nat.reduceLeDiff, Nat.reduceEqDiff, Nat.reduceAdd, Nat.reduceMul, Nat.reduceSub, Nat.reduceBEq, Int.reduceLE, Int.reduceLT, Int.reduceToNat, Int.reduceNeg, Int.reduceEq, axt, ftK, ft3, AAll, ftQ, S6, tys]
      refine ⟨_, rfl, ?_⟩; simp (maxSteps := 400000) (dsimp := false) only [SeesL, h, hD, SA, axs, axw, aresL, afill, Value.oneCell', Nat.reduceLT, Nat.reduceLeDiff, Nat.reduceEqDiff, Nat.reduceAdd, Nat.reduceMul, Nat.reduceSub, Nat.reduceBEq, Int.reduceLE, Int.reduceLT, Int.reduceToNat, Int.reduceNeg, Int.reduceEq, axt, ftK, ft3, AAll, ftQ, S6, tys] <;> exact see0f980
    · refine ACallK.strict rfl (rHas D k (by omega)) (by simp only [SeesL, hD, axs, axt, AS.ev, AS.put, upd, inHeap, Nat.reduceLT, Nat.reduceEqDiff, Nat.reduceAdd, Nat.reduceBEq, S6]; exact see0f981) ?_; simp (maxSteps := 400000) (dsimp := false) only [hD, axs, axw, aresL, afill, Value.oneCell', Nat.reduceLT, Nat.reduceLeDiff, Nat.reduceEqDiff, Nat.reduceAdd, Nat.reduceMul, Nat.reduceSub, Nat.reduceBEq, Int.reduceLE, Int.reduceLT, Int.reduceToNat, Int.reduceNeg, Int.reduceEq, axt, ftK, ft3, AAll, ftQ, S6, tys]
      by_cases hE : k ∈ E
      · refine ACallK.strict rfl (rHas E k (by omega)) (by simp only [SeesL, hE, axs, axt, AS.ev, AS.put, upd, inHeap, Nat.reduceLT, Nat.reduceEqDiff, Nat.reduceAdd, Nat.reduceBEq, S6]; exact see0f981) ?_; simp (maxSteps := 400000) (dsimp := false) only [hE, axs, axw, aresL, afill, Value.oneCell', Nat.reduceLT, Nat.reduceLeDiff, Nat.reduceEqDiff, Nat.reduceAdd, Nat.reduceMul, Nat.reduceSub, Nat.reduceBEq, Int.reduceLE, Int.reduceLT, Int.reduceToNat, Int.reduceNeg, Int.reduceEq, axt, ftK, ft3, AAll, ftQ, S6, tys]
        refine ACallK.strict rfl (known2 hE) (by simp only [SeesL, SA, axs, axt, AS.ev, AS.put, upd, inHeap, Nat.reduceLT, Nat.reduceEqDiff, Nat.reduceAdd, Nat.reduceBEq, S6]; exact see0f981) ?_; simp (maxSteps := 400000) (dsimp := false) only [SA, axs, axw, aresL, afill, Value.oneCell', Nat.reduceLT, Nat.reduceLeDiff, Nat.reduceEqDiff, Nat.reduceAdd, Nat.reduceMul, Nat.reduceSub, Nat.reduceBEq, Int.reduceLE, Int.reduceLT, Int.reduceToNat, Int.reduceNeg, Int.reduceEq, axt, ftK, ft3, AAll, ftQ, S6, tys]
        refine ⟨_, rfl, ?_⟩; simp (maxSteps := 400000) (dsimp := false) only [SeesL, h, hD, hE, SA, axs, axw, aresL, afill, Value.oneCell', Nat.reduceLT, Nat.reduceLeDiff, Nat.reduceEqDiff, Nat.reduceAdd, Nat.reduceMul, Nat.reduceSub, Nat.reduceBEq, Int.reduceLE, Int.reduceLT, Int.reduceToNat, Int.reduceNeg, Int.reduceEq, axt, ftK, ft3, AAll, ftQ, S6, tys] <;> exact see0f980
      · refine ACallK.strict rfl (rHas E k (by omega)) (by simp only [SeesL, hE, axs, axt, AS.ev, AS.put, upd, inHeap, Nat.reduceLT, Nat.reduceEqDiff, Nat.reduceAdd, Nat.reduceBEq, S6]; exact see0f981) ?_; simp (maxSteps := 400000) (dsimp := false) only [hE, axs, axw, aresL, afill, Value.oneCell', Nat.reduceLT, Nat.reduceLeDiff, Nat.reduceEqDiff, Nat.reduceAdd, Nat.reduceMul, Nat.reduceSub, Nat.reduceBEq, Int.reduceLE, Int.reduceLT, Int.reduceToNat, Int.reduceNeg, Int.reduceEq, axt, ftK, ft3, AAll, ftQ, S6, tys]
        refine ACallK.strict rfl (hfr) (by simp only [SeesL, SA, axs, axt, AS.ev, AS.put, upd, inHeap, Nat.reduceLT, Nat.reduceEqDiff, Nat.reduceAdd, Nat.reduceBEq, S6]; exact see0f981) ?_; simp (maxSteps := 400000) (dsimp := false) only [SA, axs, axw, aresL, afill, Value.oneCell', Nat.reduceLT, Nat.reduceLeDiff, Nat.reduceEqDiff, Nat.reduceAdd, Nat.reduceMul, Nat.reduceSub, Nat.reduceBEq, Int.reduceLE, Int.reduceLT, Int.reduceToNat, Int.reduceNeg, Int.reduceEq, axt, ftK, ft3, AAll, ftQ, S6, tys]
        refine ACallK.strict rfl (rFront R3.1.A k (by omega)) (by simp only [SeesL, axs, axt, AS.ev, AS.put, upd, inHeap, Nat.reduceLT, Nat.reduceEqDiff, Nat.reduceAdd, Nat.reduceBEq, S6]; exact see0f981) ?_; simp (maxSteps := 400000) (dsimp := false) only [axs, axw, aresL, afill, Value.oneCell', Nat.reduceLT, Nat.reduceLeDiff, Nat.reduceEqDiff, Nat.reduceAdd, Nat.reduceMul, Nat.reduceSub, Nat.reduceBEq, Int.reduceLE, Int.reduceLT, Int.reduceToNat, Int.reduceNeg, Int.reduceEq, axt, ftK, ft3, AAll, ftQ, S6, tys]
        refine ⟨_, rfl, ?_⟩; simp (maxSteps := 400000) (dsimp := false) only [SeesL, h, hD, hE, SA, axs, axw, aresL, afill, Value.oneCell', Nat.reduceLT, Nat.reduceLeDiff, Nat.reduceEqDiff, Nat.reduceAdd, Nat.reduceMul, Nat.reduceSub, Nat.reduceBEq, Int.reduceLE, Int.reduceLT, Int.reduceToNat, Int.reduceNeg, Int.reduceEq, axt, ftK, ft3, AAll, ftQ, S6, tys] <;> exact see0f980
end Go.Al
end
section
set_option linter.unusedVariables false
set_option linter.unusedSimpArgs false
set_option maxRecDepth 20000
set_option maxHeartbeats 3200000
-- axs, axw, aresL, afill, Value.oneCell', Nat.reduceLT, Nat.reduceLeDiff, Nat.reduceEqDiff, Nat.reduceAdd, Nat.reduceMul, Nat.reduceSub, Nat.reduceBEq, Int.reduceLE, Int.reduceLT, Int.reduceToNat, Int.reduceNeg, Int.reduceEq, axt, ftK, ft3, AAll, ftQ, S6, tys: S6
namespace Go.Al
open Go.Proofs
theorem seebe2f0 {p : Prop} (h : p := by repeat' (first | exact True.intro | exact Sees.sc | exact Sees.none | ((with_reducible refine Sees.same ?_) <;> simp [noIds, noIdsL, noIdsE, noIdsE_U, noIdsE_UU] <;> fail) | (refine Live.sees ?_ ?_ <;> first | assumption | (simp [noIdsE_U, noIdsE_UU] <;> fail)) | (refine Sees.obj ?_ ?_ ?_ <;> first | exact ⟨_, _, by assumption, rfl⟩ | (simp [U_len, UU_len] <;> fail) | (simp [noIdsE_U, noIdsE_UU] <;> fail) | (simp [U, UU, upd] <;> fail) | (simp [U, UU, upd, neS, *] <;> fail)) | (refine Sees.of_seen 3 ?_ <;> simp [seen, upd, noIdsE, noIdsL, noIds, U, UU, Nat.add_assoc] <;> fail) | refine Sees.agg ?_ | refine And.intro ?_ ?_ | simp only [SeesL])) : p := h
theorem rAResize (s : ARC) (c : Int) (h1 : s.A.length ≤ 100000) (h2 : s.B.length ≤ 100000) (h3 : s.D.length ≤ 100000) (h4 : s.E.length ≤ 100000) (p0 : 0 ≤ s.P) :
    PCalls Try.prog 68 [SA s, .sc (.int .i64 c)] (.tup [SA (arcResize s c).1, .lst 1 (U (arcResize s c).2)]) := by
  obtain ⟨k0, k1⟩ := capOf_le c
  generalize hR : arcShrink (s.A.length + s.B.length) ⟨capOf c, (if capOf c < s.P then capOf c else s.P), s.A, s.B, s.D, s.E⟩ [] = R
  have hres : arcResize s c = (arcCut R.1, R.2) := by unfold arcResize; rw [hR]
  rw [hres]
  clear hres
  have hp : 0 ≤ (if capOf c < s.P then capOf c else s.P) := by split <;> omega
  obtain ⟨C0, P0, A, B, D, E⟩ := s
  simp only at h1 h2 h3 h4 p0 hR hp
  refine PCalls.intro2 Try.func68 rfl rfl Try.ntmps68 Try.results68 (by simp) fun n => ?_; simp (maxSteps := 400000) (dsimp := false) only [SA, axs, axw, aresL, afill, Value.oneCell', Nat.reduceLT, Nat.reduceLeDiff, Nat.reduceEqDiff, Nat.reduceAdd, Nat.reduceMul, Nat.reduceSub, Nat.reduceBEq, Int.reduceLE, Int.reduceLT, Int.reduceToNat, Int.reduceNeg, Int.reduceEq, axt, ftK, ft3, AAll, ftQ, S6, tys]
  refine ACallK.strict rfl (rCap c) (by simp only [SeesL, axs, axt, AS.ev, AS.put, upd, inHeap, Nat.reduceLT, Nat.reduceEqDiff, Nat.reduceAdd, Nat.reduceBEq, S6]; exact seebe2f0) ?_; simp (maxSteps := 400000) (dsimp := false) only [axs, axw, aresL, afill, Value.oneCell', Nat.reduceLT, Nat.reduceLeDiff, Nat.reduceEqDiff, Nat.reduceAdd, Nat.reduceMul, Nat.reduceSub, Nat.reduceBEq, Int.reduceLE, Int.reduceLT, Int.reduceToNat, Int.reduceNeg, Int.reduceEq, axt, ftK, ft3, AAll, ftQ, S6, tys]
  generalize hC : capOf c = C at *
  generalize hP : (if C < P0 then C else P0) = P at *
  refine ALoop.falls (fun x : ARC × List Int => x.1.A.length + x.1.B.length) (fun x s => x.1.C = C ∧ x.1.P = P ∧ x.1.A.length + x.1.B.length + x.2.length = A.length + B.length ∧ x.1.A.length + x.1.B.length ≤ 200000 ∧ x.1.D.length + x.1.A.length + x.1.B.length ≤ 300000 ∧ x.1.E.length + x.1.A.length + x.1.B.length ≤ 300000 ∧ arcShrink (x.1.A.length + x.1.B.length) x.1 x.2 = R ∧ s.t 2 = .ptr n 6 0 0 ∧ s.t 4 = .ptr (n + 1) 6 0 0 ∧ s.H n = some (.obj 43 6 [[.sc (.int .i64 C), .sc (.int .i64 P), .lst 1 (U x.1.A), .lst 1 (U x.1.B), .lst 1 (U x.1.D), .lst 1 (U x.1.E)]] false) ∧ s.H (n + 1) = some (.obj 43 6 [[.sc (.int .i64 0), .sc (.int .i64 0), .sc (.slice none 0 0), .sc (.slice none 0 0), .sc (.slice none 0 0), .sc (.slice none 0 0)]] false) ∧ Live 54 1 s.H (U x.2) (s.t 6)) (⟨C, P, A, B, D, E⟩, []) ⟨rfl, rfl, by simp, by simp only; omega, by simp only; omega, by simp only; omega, hR, rfl, rfl, by simp [upd, neS], by simp [upd, neS], Live.nil⟩ ?_
  rintro ⟨⟨C', P', A', B', D', E'⟩, g⟩ s hb ⟨rfl, rfl, q1, q2, q3, q4, hS, e2, e4, en, en1, hv⟩
  simp only at q1 q2 q3 q4 hS en hv hp k0 k1 ⊢
  have hnn := hb _ _ en1
  have hne : (¬ n = s.n) ∧ (¬ s.n = n) ∧ (¬ n = s.n + 1) ∧ (¬ s.n + 1 = n) ∧ (¬ n = s.n + 1 + 1) ∧ (¬ s.n + 1 + 1 = n) ∧ (¬ n + 1 = s.n) ∧ (¬ s.n = n + 1) ∧ (¬ n + 1 = s.n + 1) ∧ (¬ s.n + 1 = n + 1) ∧ (¬ n + 1 = s.n + 1 + 1) ∧ (¬ s.n + 1 + 1 = n + 1) := by and_intros <;> omega
  have w0 : IntKind.i64.wrap ((A'.length : Int) + B'.length) = (A'.length : Int) + B'.length := wrap_in (by omega) (by omega)
  simp (maxSteps := 400000) (dsimp := false) only [AThen, ABlock, AScope, ax_skip, ax_label, ax_ret, ax_exit, ax_seq, ax_cond, ax_block, ax_scope, ACond_true, ACond_false, AS.ev, decide_true, decide_false, if_true, if_false, Nat.reduceEqDiff]
  refine ax_via (fun t => t.t 2 = .ptr n 6 0 0 ∧ t.t 4 = .ptr (n + 1) 6 0 0 ∧ t.t 27 = .sc (.bool (decide ((A'.length : Int) + B'.length > C'))) ∧ t.t 6 = s.t 6 ∧ t.H = s.H ∧ t.n = s.n) ?_ ?_
  · simp (maxSteps := 400000) (dsimp := false) only [e2, e4, en, en1, U_len, w0, axs, axw, aresL, afill, Value.oneCell', Nat.reduceLT, Nat.reduceLeDiff, Nat.reduceEqDiff, Nat.reduceAdd, Nat.reduceMul, Nat.reduceSub, Nat.reduceBEq, Int.reduceLE, Int.reduceLT, Int.reduceToNat, Int.reduceNeg, Int.reduceEq, axt, ftK, ft3, AAll, ftQ, S6, tys]
  rintro t0 ⟨d2, d4, d27, d6, dH, dn⟩
  by_cases hc : (A'.length : Int) + B'.length > C'
  · obtain ⟨f, hf⟩ : ∃ f, A'.length + B'.length = f + 1 := ⟨A'.length + B'.length - 1, by omega⟩
    have hdn := shr_ne (s := ⟨C', P', A', B', D', E'⟩) k0 hp hc
    have hl1 := arcDem_len ⟨C', P', A', B', D', E'⟩ (decide ((A'.length : Int) > P' ∨ B' = []))
    have hl2 := arcDem_len2 (s := ⟨C', P', A', B', D', E'⟩) _ hdn
    have hcall := rAEvict ⟨C', P', A', B', D', E'⟩ (decide ((A'.length : Int) > P' ∨ B' = [])) (by show A'.length ≤ _; omega) (by show B'.length ≤ _; omega) (by show D'.length ≤ _; omega) (by show E'.length ≤ _; omega) hdn
    rw [hf] at hS
    simp only [arcShrink, if_neg (show ¬ ((A'.length : Int) + B'.length ≤ C') by omega)] at hS
    have hguard : ((A'.length : Int) > P' ∧ True ∧ decide ((A'.length : Int) > P' ∨ B' = []) = true) ∨ (¬ (A'.length : Int) > P' ∧ ((B'.length : Int) = 0) = True ∧ decide ((A'.length : Int) > P' ∨ B' = []) = true) ∨ (¬ (A'.length : Int) > P' ∧ ¬ (B'.length : Int) = 0 ∧ decide ((A'.length : Int) > P' ∨ B' = []) = false) := by
      by_cases g1 : (A'.length : Int) > P'
      · exact .inl ⟨g1, trivial, decide_eq_true (.inl g1)⟩
      · by_cases g2 : B' = []
        · exact .inr (.inl ⟨g1, eq_true (by rw [g2]; rfl), decide_eq_true (.inr g2)⟩)
        · exact .inr (.inr ⟨g1, by simpa using g2, decide_eq_false (by rintro (h | h); exact g1 h; exact g2 h)⟩)
    generalize hdc : decide ((A'.length : Int) > P' ∨ B' = []) = dc at *
    generalize arcDem ⟨C', P', A', B', D', E'⟩ dc = rc at *
    obtain ⟨⟨C2, P2, A2, B2, D2, E2⟩, k⟩ := rc
    simp only at hl1 hl2 hcall hS
    obtain ⟨hl2, rfl, rfl⟩ := hl2
    have hs : U (g ++ [k]) = U g ++ [[.sc (.int .u64 k)]] := U_snoc g k
    have hgl2 : (U g).length = g.length := U_len g
    simp (maxSteps := 400000) (dsimp := false) only [d27, hc, AThen, ABlock, AScope, ax_skip, ax_label, ax_ret, ax_exit, ax_seq, ax_cond, ax_block, ax_scope, ACond_true, ACond_false, AS.ev, decide_true, decide_false, if_true, if_false, Nat.reduceEqDiff]
    refine ax_via (fun t => t.t 2 = .ptr n 6 0 0 ∧ t.t 4 = .ptr (n + 1) 6 0 0 ∧ t.t 6 = s.t 6 ∧ t.t 7 = .ptr s.n 6 0 0 ∧ t.t 8 = .lst 1 (U [k]) ∧ t.H = upd (upd s.H s.n (some (.obj 43 6 [[.sc (.int .i64 0), .sc (.int .i64 0), .sc (.slice none 0 0), .sc (.slice none 0 0), .sc (.slice none 0 0), .sc (.slice none 0 0)]] false))) s.n (some (.obj 43 6 [[.sc (.int .i64 C2), .sc (.int .i64 P2), .lst 1 (U A2), .lst 1 (U B2), .lst 1 (U D2), .lst 1 (U E2)]] false)) ∧ t.n = s.n + 1) ?_ ?_
    · rcases hguard with ⟨g1, g2, rfl⟩ | ⟨g1, g2, rfl⟩ | ⟨g1, g2, rfl⟩
      all_goals
        simp (maxSteps := 400000) (dsimp := false) only [d2, d4, d6, dH, dn, en, en1, U_len, g1, g2, axs, axw, aresL, afill, Value.oneCell', Nat.reduceLT, Nat.reduceLeDiff, Nat.reduceEqDiff, Nat.reduceAdd, Nat.reduceMul, Nat.reduceSub, Nat.reduceBEq, Int.reduceLE, Int.reduceLT, Int.reduceToNat, Int.reduceNeg, Int.reduceEq, axt, ftK, ft3, AAll, ftQ, S6, tys]
        refine ACallK.strict rfl (hcall) (by simp only [SeesL, SA, d2, d4, d6, dH, dn, en, en1, hne, axs, axt, AS.ev, AS.put, upd, inHeap, Nat.reduceLT, Nat.reduceEqDiff, Nat.reduceAdd, Nat.reduceBEq, S6]; exact seebe2f0) ?_; simp (maxSteps := 400000) (dsimp := false) only [SA, d2, d4, d6, dH, dn, en, en1, hne, axs, axw, aresL, afill, Value.oneCell', Nat.reduceLT, Nat.reduceLeDiff, Nat.reduceEqDiff, Nat.reduceAdd, Nat.reduceMul, Nat.reduceSub, Nat.reduceBEq, Int.reduceLE, Int.reduceLT, Int.reduceToNat, Int.reduceNeg, Int.reduceEq, axt, ftK, ft3, AAll, ftQ, S6, tys]
    rintro t ⟨f2, f4, f6, f7, f8, fH, fn⟩
    rcases hv.cases hb with ⟨h7, h8⟩ | ⟨id, hlt2, hne0, h7, h8⟩
    · have hUk : U [k] = [[.sc (.int .u64 k)]] := rfl
      simp (maxSteps := 400000) (dsimp := false) only [f2, f4, f6, f7, f8, fH, fn, h8, en, en1, hne, hUk, axs, axw, aresL, afill, Value.oneCell', Nat.reduceLT, Nat.reduceLeDiff, Nat.reduceEqDiff, Nat.reduceAdd, Nat.reduceMul, Nat.reduceSub, Nat.reduceBEq, Int.reduceLE, Int.reduceLT, Int.reduceToNat, Int.reduceNeg, Int.reduceEq, axt, ftK, ft3, AAll, ftQ, S6, tys]
      all_goals
        refine ⟨(⟨C2, P2, A2, B2, D2, E2⟩, g ++ [k]), by show A2.length + B2.length < A'.length + B'.length; omega, rfl, rfl, by show A2.length + B2.length + (g ++ [k]).length = _; simp; omega, by show A2.length + B2.length ≤ _; omega, by show D2.length + A2.length + B2.length ≤ _; omega, by show E2.length + A2.length + B2.length ≤ _; omega, ?_, rfl, ?_⟩
        · show arcShrink (A2.length + B2.length) _ _ = R
          rw [show A2.length + B2.length = f by omega]; exact hS
        · rw [hs, h7]; exact Live.mk (by simp [upd, neS, hne]) rfl
    · have b1 : ((U g).length + 1) * 8 ≤ 140737488355328 := by omega
      have b2 : g.length ≤ 1099511627775 := by omega
      have b3 : (g.length + 1) * 8 ≤ 140737488355328 ↔ True := by simp; omega
      have b4 : g.length + 1 ≤ 17592186044416 := by omega
      have hid1 : ¬ id = n := by rintro rfl; rw [en] at h8; simp at h8
      have hid2 : ¬ id = n + 1 := by rintro rfl; rw [en1] at h8; simp at h8
      have hid : ¬ id = n ∧ ¬ n = id ∧ ¬ id = n + 1 ∧ ¬ n + 1 = id ∧ ¬ id = s.n + 1 ∧ ¬ s.n + 1 = id ∧ ¬ id = s.n ∧ ¬ s.n = id := by and_intros <;> omega
      rw [U_len] at h7
      have hUk : U [k] = [[.sc (.int .u64 k)]] := rfl
      simp (maxSteps := 400000) (dsimp := false) only [f2, f4, f6, f7, f8, fH, fn, h7, h8, en, en1, hne, hid, b2, b3, b4, U_len, hUk, axs, axw, aresL, afill, Value.oneCell', Nat.reduceLT, Nat.reduceLeDiff, Nat.reduceEqDiff, Nat.reduceAdd, Nat.reduceMul, Nat.reduceSub, Nat.reduceBEq, Int.reduceLE, Int.reduceLT, Int.reduceToNat, Int.reduceNeg, Int.reduceEq, axt, ftK, ft3, AAll, ftQ, S6, tys]
      all_goals
        refine ⟨(⟨C2, P2, A2, B2, D2, E2⟩, g ++ [k]), by show A2.length + B2.length < A'.length + B'.length; omega, rfl, rfl, by show A2.length + B2.length + (g ++ [k]).length = _; simp; omega, by show A2.length + B2.length ≤ _; omega, by show D2.length + A2.length + B2.length ≤ _; omega, by show E2.length + A2.length + B2.length ≤ _; omega, ?_, rfl, ?_⟩
        · show arcShrink (A2.length + B2.length) _ _ = R
          rw [show A2.length + B2.length = f by omega]; exact hS
        · rw [hs]; exact Live.mk (by simp [upd, neS, hne]) (by simp [U_len])
  · have hres : R = (⟨C', P', A', B', D', E'⟩, g) := by
      rw [← hS]
      cases hsz : A'.length + B'.length with
      | zero => rfl
      | succ f => simp only [arcShrink]; rw [if_pos (by omega)]
    subst hres
    clear hS hR
    unfold arcCut
    have hA : (A'.length : Int) ≤ C' := by omega
    have hz : 0 ≤ C' - A'.length := by omega
    simp only
    simp (maxSteps := 400000) (dsimp := false) only [d27, hc, axs, axw, aresL, afill, Value.oneCell', Nat.reduceLT, Nat.reduceLeDiff, Nat.reduceEqDiff, Nat.reduceAdd, Nat.reduceMul, Nat.reduceSub, Nat.reduceBEq, Int.reduceLE, Int.reduceLT, Int.reduceToNat, Int.reduceNeg, Int.reduceEq, axt, ftK, ft3, AAll, ftQ, S6, tys]
    refine ALoop.falls (fun x : List Int => x.length) (fun x s => x.length ≤ 300000 ∧ cutTo x (C' - A'.length) = cutTo D' (C' - A'.length) ∧ s.t 2 = .ptr n 6 0 0 ∧ s.t 4 = .ptr (n + 1) 6 0 0 ∧ s.H n = some (.obj 43 6 [[.sc (.int .i64 C'), .sc (.int .i64 P'), .lst 1 (U A'), .lst 1 (U B'), .lst 1 (U x), .lst 1 (U E')]] false) ∧ s.H (n + 1) = some (.obj 43 6 [[.sc (.int .i64 0), .sc (.int .i64 0), .sc (.slice none 0 0), .sc (.slice none 0 0), .sc (.slice none 0 0), .sc (.slice none 0 0)]] false) ∧ Live 54 1 s.H (U g) (s.t 6)) D' ⟨by omega, rfl, d2, d4, by rw [dH]; exact en, by rw [dH]; exact en1, by rw [dH, d6]; exact hv⟩ ?_
    clear d2 d4 d27 d6 dH dn t0 e2 e4 en en1 hv hnn hne hb s
    rintro x s hb ⟨r1, r2, e2, e4, en, en1, hv⟩
    have w0 : IntKind.i64.wrap ((A'.length : Int) + x.length) = (A'.length : Int) + x.length := wrap_in (by omega) (by omega)
    by_cases hc2 : (A'.length : Int) + x.length > C'
    · obtain ⟨v1, v2, v3⟩ := cutLast (l := x) (by omega) (by omega)
      simp (maxSteps := 400000) (dsimp := false) only [e2, e4, en, en1, U_len, w0, hc2, v1, v2, v3, U_take, axs, axw, aresL, afill, Value.oneCell', Nat.reduceLT, Nat.reduceLeDiff, Nat.reduceEqDiff, Nat.reduceAdd, Nat.reduceMul, Nat.reduceSub, Nat.reduceBEq, Int.reduceLE, Int.reduceLT, Int.reduceToNat, Int.reduceNeg, Int.reduceEq, axt, ftK, ft3, AAll, ftQ, S6, tys]
      exact ⟨x.take (x.length - 1), by show (x.take (x.length - 1)).length < x.length; rw [take_len]; omega, by rw [take_len]; omega, (cutTo_step hz (by omega)).trans r2, rfl, hv.upd (by rw [en]; simp)⟩
    · have hx : x = cutTo D' (C' - A'.length) := by rw [← r2, cutTo_id (by omega)]
      subst hx
      have hxl := cutTo_len D' (C' - A'.length) hz
      simp (maxSteps := 400000) (dsimp := false) only [e2, e4, en, en1, U_len, w0, hc2, axs, axw, aresL, afill, Value.oneCell', Nat.reduceLT, Nat.reduceLeDiff, Nat.reduceEqDiff, Nat.reduceAdd, Nat.reduceMul, Nat.reduceSub, Nat.reduceBEq, Int.reduceLE, Int.reduceLT, Int.reduceToNat, Int.reduceNeg, Int.reduceEq, axt, ftK, ft3, AAll, ftQ, S6, tys]
      generalize cutTo D' (C' - A'.length) = x at *
      have hz2 : 0 ≤ C' - x.length := by omega
      refine ALoop.falls (fun y : List Int => y.length) (fun y s => y.length ≤ 300000 ∧ cutTo y (C' - x.length) = cutTo E' (C' - x.length) ∧ s.t 2 = .ptr n 6 0 0 ∧ s.t 4 = .ptr (n + 1) 6 0 0 ∧ s.H n = some (.obj 43 6 [[.sc (.int .i64 C'), .sc (.int .i64 P'), .lst 1 (U A'), .lst 1 (U B'), .lst 1 (U x), .lst 1 (U y)]] false) ∧ s.H (n + 1) = some (.obj 43 6 [[.sc (.int .i64 0), .sc (.int .i64 0), .sc (.slice none 0 0), .sc (.slice none 0 0), .sc (.slice none 0 0), .sc (.slice none 0 0)]] false) ∧ Live 54 1 s.H (U g) (s.t 6)) E' ⟨by omega, rfl, e2, e4, en, en1, hv⟩ ?_
      clear e2 e4 en en1 hv hb s
      rintro y s hb ⟨r3, r4, e2, e4, en, en1, hv⟩
      have w0 : IntKind.i64.wrap ((x.length : Int) + y.length) = (x.length : Int) + y.length := wrap_in (by omega) (by omega)
      by_cases hc3 : (x.length : Int) + y.length > C'
      · have hy0 : (y.length : Int) > 0 := by omega
        obtain ⟨v1, v2, v3⟩ := cutLast (l := y) (by omega) (by omega)
        simp (maxSteps := 400000) (dsimp := false) only [e2, e4, en, en1, hc3, hy0, U_len, w0, v1, v2, v3, U_take, axs, axw, aresL, afill, Value.oneCell', Nat.reduceLT, Nat.reduceLeDiff, Nat.reduceEqDiff, Nat.reduceAdd, Nat.reduceMul, Nat.reduceSub, Nat.reduceBEq, Int.reduceLE, Int.reduceLT, Int.reduceToNat, Int.reduceNeg, Int.reduceEq, axt, ftK, ft3, AAll, ftQ, S6, tys]
        exact ⟨y.take (y.length - 1), by show (y.take (y.length - 1)).length < y.length; rw [take_len]; omega, by rw [take_len]; omega, (cutTo_step hz2 (by omega)).trans r4, rfl, hv.upd (by rw [en]; simp)⟩
      · have hy : y = cutTo E' (C' - x.length) := by rw [← r4, cutTo_id (by omega)]
        rw [← hy]
        simp (maxSteps := 400000) (dsimp := false) only [e2, e4, en, en1, hc3, SA, U_len, w0, axs, axw, aresL, afill, Value.oneCell', Nat.reduceLT, Nat.reduceLeDiff, Nat.reduceEqDiff, Nat.reduceAdd, Nat.reduceMul, Nat.reduceSub, Nat.reduceBEq, Int.reduceLE, Int.reduceLT, Int.reduceToNat, Int.reduceNeg, Int.reduceEq, axt, ftK, ft3, AAll, ftQ, S6, tys]
        refine ALoop.falls (fun _ : Unit => 0) (fun _ s => s.t 2 = .ptr n 6 0 0 ∧ s.t 4 = .ptr (n + 1) 6 0 0 ∧ s.H n = some (.obj 43 6 [[.sc (.int .i64 C'), .sc (.int .i64 P'), .lst 1 (U A'), .lst 1 (U B'), .lst 1 (U x), .lst 1 (U y)]] false) ∧ s.H (n + 1) = some (.obj 43 6 [[.sc (.int .i64 0), .sc (.int .i64 0), .sc (.slice none 0 0), .sc (.slice none 0 0), .sc (.slice none 0 0), .sc (.slice none 0 0)]] false) ∧ Live 54 1 s.H (U g) (s.t 6)) () ⟨e2, e4, en, en1, hv⟩ ?_
        clear e2 e4 en en1 hv hb s
        rintro _ s hb ⟨e2, e4, en, en1, hv⟩
        simp (maxSteps := 400000) (dsimp := false) only [e2, e4, en, en1, hc3, SA, U_len, w0, axs, axw, aresL, afill, Value.oneCell', Nat.reduceLT, Nat.reduceLeDiff, Nat.reduceEqDiff, Nat.reduceAdd, Nat.reduceMul, Nat.reduceSub, Nat.reduceBEq, Int.reduceLE, Int.reduceLT, Int.reduceToNat, Int.reduceNeg, Int.reduceEq, axt, ftK, ft3, AAll, ftQ, S6, tys]
        refine ⟨_, rfl, Sees.tup ?_⟩
        simp only [SeesL]
        refine ⟨Sees.same (by simp [noIds, noIdsL, noIdsE_U, S6]), ?_, trivial⟩
        exact (hv.upd (by rw [en1]; simp)).sees (noIdsE_U _)
end Go.Al
end
