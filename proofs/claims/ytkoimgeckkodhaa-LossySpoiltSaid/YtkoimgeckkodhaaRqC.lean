/- Rows put together, by the library. Conditions: the rows are short. Rows put together; two queues: the program's small functions, and the reference's. Conditions: the rows are short. Two queues: how keys are reclaimed, by the reference and by the program. Conditions: the rows are short. Two queues: how the program reclaims. Conditions: the rows are short. Two queues: acts, by the program and by the reference, as one. Conditions: the rows are short. -/
import Derived.Test.YtkoimgeckkodhaaRqB
section
set_option linter.unusedVariables false
set_option linter.unusedSimpArgs false
set_option maxRecDepth 20000
set_option maxHeartbeats 1600000
namespace Go.Al
open Go.Proofs
def lastD (l : List Int) : Int := (l[l.length - 1]?).getD 0
theorem lastD_get {l : List Int} (h : l ≠ []) : l[l.length - 1]? = some (lastD l) := by
  have := List.length_pos_iff.2 h
  unfold lastD
  rw [List.getElem?_eq_getElem (by omega)]; rfl
end Go.Al
end
section
set_option linter.unusedVariables false
set_option linter.unusedSimpArgs false
set_option maxRecDepth 20000
set_option maxHeartbeats 1600000
-- axs, axw, aresL, afill, Value.oneCell', Nat.reduceLT, Nat.reduceLeDiff, Nat.reduceEqDiff, Nat.reduceAdd, Nat.reduceMul, Nat.reduceSub, Nat.reduceBEq, Int.reduceLE, Int.reduceLT, Int.reduceToNat, Int.reduceNeg, Int.reduceEq, axt, ftK, ft3, AAll, ftQ, S4, tys: S4
namespace Go.Al
open Go.Proofs
/-- A capacity, and three rows of keys: In, Out, Main. -/
def S4 (C : Int) (I O M : List Int) : AV := .agg [.sc (.int .i64 C), .lst 1 (U I), .lst 1 (U O), .lst 1 (U M)]
theorem seeec6d0 {p : Prop} (h : p := by repeat' (first | exact True.intro | exact Sees.sc | exact Sees.none | ((with_reducible refine Sees.same ?_) <;> simp [noIds, noIdsL, noIdsE, noIdsE_U, noIdsE_UU] <;> fail) | (refine Live.sees ?_ ?_ <;> first | assumption | (simp [noIdsE_U, noIdsE_UU] <;> fail)) | (refine Sees.obj ?_ ?_ ?_ <;> first | exact ⟨_, _, by assumption, rfl⟩ | (simp [U_len, UU_len] <;> fail) | (simp [noIdsE_U, noIdsE_UU] <;> fail) | (simp [U, UU, upd] <;> fail) | (simp [U, UU, upd, neS, *] <;> fail)) | (refine Sees.of_seen 3 ?_ <;> simp [seen, upd, noIdsE, noIdsL, noIds, U, UU, Nat.add_assoc] <;> fail) | refine Sees.agg ?_ | refine And.intro ?_ ?_ | simp only [SeesL])) : p := h
theorem seeec6d1 {p : Prop} (h : p := by repeat' (first | exact True.intro | exact Sees.sc | exact Sees.none | ((with_reducible refine Sees.same ?_) <;> simp [noIds, noIdsL, noIdsE, noIdsE_U, noIdsE_UU] <;> fail) | (refine Live.sees ?_ ?_ <;> first | assumption | (simp [noIdsE_U, noIdsE_UU] <;> fail)) | (refine Sees.obj ?_ ?_ ?_ <;> first | exact ⟨_, _, by assumption, rfl⟩ | (simp [U_len, UU_len] <;> fail) | (simp [noIdsE_U, noIdsE_UU] <;> fail) | (simp [U, UU, upd, neS] <;> fail) | (simp [U, UU, upd, neS, *] <;> fail)) | refine Sees.agg ?_ | refine Sees.tup ?_ | refine And.intro ?_ ?_ | simp only [SeesL])) : p := h
theorem rTNew (c : Int) : PCalls Try.prog 27 [.sc (.int .i64 c)] (S4 (capOf c) [] [] []) := by
  refine PCalls.intro2 Try.func27 rfl rfl Try.ntmps27 Try.results27 (by simp) fun n => ?_; simp (maxSteps := 400000) (dsimp := false) only [axs, axw, aresL, afill, Value.oneCell', Nat.reduceLT, Nat.reduceLeDiff, Nat.reduceEqDiff, Nat.reduceAdd, Nat.reduceMul, Nat.reduceSub, Nat.reduceBEq, Int.reduceLE, Int.reduceLT, Int.reduceToNat, Int.reduceNeg, Int.reduceEq, axt, ftK, ft3, AAll, ftQ, S4, tys]
  refine ACallK.strict rfl (rCap c) (by simp only [SeesL, axs, axt, AS.ev, AS.put, upd, inHeap, Nat.reduceLT, Nat.reduceEqDiff, Nat.reduceAdd, Nat.reduceBEq, S4]; exact seeec6d0) ?_; simp (maxSteps := 400000) (dsimp := false) only [axs, axw, aresL, afill, Value.oneCell', Nat.reduceLT, Nat.reduceLeDiff, Nat.reduceEqDiff, Nat.reduceAdd, Nat.reduceMul, Nat.reduceSub, Nat.reduceBEq, Int.reduceLE, Int.reduceLT, Int.reduceToNat, Int.reduceNeg, Int.reduceEq, axt, ftK, ft3, AAll, ftQ, S4, tys]
  refine ⟨_, rfl, ?_⟩; simp (maxSteps := 400000) (dsimp := false) only [SeesL, axs, axw, aresL, afill, Value.oneCell', Nat.reduceLT, Nat.reduceLeDiff, Nat.reduceEqDiff, Nat.reduceAdd, Nat.reduceMul, Nat.reduceSub, Nat.reduceBEq, Int.reduceLE, Int.reduceLT, Int.reduceToNat, Int.reduceNeg, Int.reduceEq, axt, ftK, ft3, AAll, ftQ, S4, tys] <;> exact seeec6d1
end Go.Al
end
section
set_option linter.unusedVariables false
set_option linter.unusedSimpArgs false
set_option maxRecDepth 20000
set_option maxHeartbeats 1600000
-- axs, axw, aresL, afill, Value.oneCell', Nat.reduceLT, Nat.reduceLeDiff, Nat.reduceEqDiff, Nat.reduceAdd, Nat.reduceMul, Nat.reduceSub, Nat.reduceBEq, Int.reduceLE, Int.reduceLT, Int.reduceToNat, Int.reduceNeg, Int.reduceEq, axt, ftK, ft3, AAll, ftQ, S4, tys: S4
namespace Go.Al
open Go.Proofs
def kin (C : Int) : Int := if 1 > C.tdiv 4 then 1 else C.tdiv 4
theorem kin_le (C : Int) : 1 ≤ kin C := by unfold kin; split <;> omega
structure TQ where
  I : List Int
  O : List Int
  M : List Int
def tqPut (C : Int) (O : List Int) (k : Int) : List Int := cutTo (k :: without O k) (C.tdiv 2)
def tqReclaim (C : Int) (s : TQ) : TQ × Int :=
  if (s.I.length : Int) > kin C ∨ s.M = [] then (⟨s.I.take (s.I.length - 1), tqPut C s.O (lastD s.I), s.M⟩, lastD s.I) else (⟨s.I, s.O, s.M.take (s.M.length - 1)⟩, lastD s.M)
def tqShrink (C z : Int) : Nat → TQ → List Int → TQ × List Int
  | 0, s, g => (s, g)
  | f + 1, s, g => if (s.I.length + s.M.length : Int) ≤ z then (s, g) else tqShrink C z f (tqReclaim C s).1 (g ++ [(tqReclaim C s).2])
theorem div_facts {C : Int} (c0 : 1 ≤ C) (c1 : C ≤ 1048576) : IntKind.i64.wrap (C.tdiv 2) = C.tdiv 2 ∧ IntKind.i64.wrap (C.tdiv 4) = C.tdiv 4 ∧ 0 ≤ C.tdiv 2 ∧ C.tdiv 2 ≤ 524288 ∧ 0 ≤ C.tdiv 4 := by
  have h1 : C.tdiv 2 = C / 2 := Int.tdiv_eq_ediv_of_nonneg (by omega)
  have h2 : C.tdiv 4 = C / 4 := Int.tdiv_eq_ediv_of_nonneg (by omega)
  rw [h1, h2]
  exact ⟨wrap_in (by omega) (by omega), wrap_in (by omega) (by omega), by omega, by omega, by omega⟩
theorem tqPut_len {C : Int} (O : List Int) (k : Int) (c0 : 1 ≤ C) (c1 : C ≤ 1048576) : (tqPut C O k).length ≤ 524288 := by
  obtain ⟨_, _, h0, h1, _⟩ := div_facts c0 c1
  unfold tqPut
  have := cutTo_len (k :: without O k) (C.tdiv 2) h0
  omega
theorem see48580 {p : Prop} (h : p := by repeat' (first | exact True.intro | exact Sees.sc | exact Sees.none | ((with_reducible refine Sees.same ?_) <;> simp [noIds, noIdsL, noIdsE, noIdsE_U, noIdsE_UU] <;> fail) | (refine Live.sees ?_ ?_ <;> first | assumption | (simp [noIdsE_U, noIdsE_UU] <;> fail)) | (refine Sees.obj ?_ ?_ ?_ <;> first | exact ⟨_, _, by assumption, rfl⟩ | (simp [U_len, UU_len] <;> fail) | (simp [noIdsE_U, noIdsE_UU] <;> fail) | (simp [U, UU, upd, neS] <;> fail) | (simp [U, UU, upd, neS, *] <;> fail)) | refine Sees.agg ?_ | refine Sees.tup ?_ | refine And.intro ?_ ?_ | simp only [SeesL])) : p := h
theorem see48581 {p : Prop} (h : p := by repeat' (first | exact True.intro | exact Sees.sc | exact Sees.none | ((with_reducible refine Sees.same ?_) <;> simp [noIds, noIdsL, noIdsE, noIdsE_U, noIdsE_UU] <;> fail) | (refine Live.sees ?_ ?_ <;> first | assumption | (simp [noIdsE_U, noIdsE_UU] <;> fail)) | (refine Sees.obj ?_ ?_ ?_ <;> first | exact ⟨_, _, by assumption, rfl⟩ | (simp [U_len, UU_len] <;> fail) | (simp [noIdsE_U, noIdsE_UU] <;> fail) | (simp [U, UU, upd] <;> fail) | (simp [U, UU, upd, neS, *] <;> fail)) | (refine Sees.of_seen 3 ?_ <;> simp [seen, upd, noIdsE, noIdsL, noIds, U, UU, Nat.add_assoc] <;> fail) | refine Sees.agg ?_ | refine And.intro ?_ ?_ | simp only [SeesL])) : p := h
theorem rTfall (C : Int) (I O M : List Int) (c0 : 1 ≤ C) (c1 : C ≤ 1048576) (h2 : O.length ≤ 1000000) : PCalls Try.prog 91 [S4 C I O M] (S4 C I (cutTo O (C.tdiv 2)) M) := by
  obtain ⟨w1, w2, d0, d1, d2⟩ := div_facts c0 c1
  refine PCalls.intro2 Try.func91 rfl rfl Try.ntmps91 Try.results91 (by simp) fun n => ?_; simp (maxSteps := 400000) (dsimp := false) only [axs, axw, aresL, afill, Value.oneCell', Nat.reduceLT, Nat.reduceLeDiff, Nat.reduceEqDiff, Nat.reduceAdd, Nat.reduceMul, Nat.reduceSub, Nat.reduceBEq, Int.reduceLE, Int.reduceLT, Int.reduceToNat, Int.reduceNeg, Int.reduceEq, axt, ftK, ft3, AAll, ftQ, S4, tys]
  refine ALoop.falls (fun k : Nat => k) (fun k s => k ≤ O.length ∧ s.t 1 = .ptr n 4 0 0 ∧ s.t 2 = .ptr (n + 1) 4 0 0 ∧ s.H n = some (.obj 38 4 [[.sc (.int .i64 C), .lst 1 (U I), .lst 1 (U (O.take k)), .lst 1 (U M)]] false) ∧ s.H (n + 1) = some (.obj 38 4 [[.sc (.int .i64 0), .sc (.slice none 0 0), .sc (.slice none 0 0), .sc (.slice none 0 0)]] false) ∧ (k < O.length → C.tdiv 2 ≤ k)) O.length ⟨Nat.le_refl _, rfl, rfl, by rw [List.take_length]; simp [upd, neS], by simp [upd, neS], by omega⟩ ?_
  rintro k s hb ⟨hk, e1, e2, en, en1, hz⟩
  have hlen : (O.take k).length = k := by simp; omega
  by_cases hc : (k : Int) > C.tdiv 2
  · have hk0 : 0 < k := by omega
    have hw : IntKind.i64.wrap ((k : Int) - 1) = ((k - 1 : Nat) : Int) := by rw [wrap_in (by omega) (by omega)]; omega
    have g0 : (0 : Int) ≤ ((k - 1 : Nat) : Int) := by omega
    have g2 : ((k - 1 : Nat) : Int) ≤ k := by omega
    have ht : (O.take k).take (k - 1) = O.take (k - 1) := by rw [List.take_take, Nat.min_eq_left (by omega)]
    have hne1 : ¬ n = n + 1 := by omega
    simp (maxSteps := 400000) (dsimp := false) only [e1, e2, en, en1, U_len, hlen, w1, hc, hw, g0, g2, U_take, ht, axs, axw, aresL, afill, Value.oneCell', Nat.reduceLT, Nat.reduceLeDiff, Nat.reduceEqDiff, Nat.reduceAdd, Nat.reduceMul, Nat.reduceSub, Nat.reduceBEq, Int.reduceLE, Int.reduceLT, Int.reduceToNat, Int.reduceNeg, Int.reduceEq, axt, ftK, ft3, AAll, ftQ, S4, tys]
    exact ⟨k - 1, by omega, by omega, rfl, by omega⟩
  · have hcut : cutTo O (C.tdiv 2) = O.take k := by
      rw [cutTo_nat]
      rcases Nat.lt_or_ge k O.length with h | h
      · congr 1; have := hz h; omega
      · rw [List.take_of_length_le (by omega), List.take_of_length_le (by omega)]
    rw [hcut]
    simp (maxSteps := 400000) (dsimp := false) only [e1, e2, en, en1, U_len, hlen, w1, hc, axs, axw, aresL, afill, Value.oneCell', Nat.reduceLT, Nat.reduceLeDiff, Nat.reduceEqDiff, Nat.reduceAdd, Nat.reduceMul, Nat.reduceSub, Nat.reduceBEq, Int.reduceLE, Int.reduceLT, Int.reduceToNat, Int.reduceNeg, Int.reduceEq, axt, ftK, ft3, AAll, ftQ, S4, tys]
    refine ⟨_, rfl, ?_⟩; simp (maxSteps := 400000) (dsimp := false) only [SeesL, axs, axw, aresL, afill, Value.oneCell', Nat.reduceLT, Nat.reduceLeDiff, Nat.reduceEqDiff, Nat.reduceAdd, Nat.reduceMul, Nat.reduceSub, Nat.reduceBEq, Int.reduceLE, Int.reduceLT, Int.reduceToNat, Int.reduceNeg, Int.reduceEq, axt, ftK, ft3, AAll, ftQ, S4, tys] <;> exact see48580
theorem rTreclaim (C : Int) (I O M : List Int) (c0 : 1 ≤ C) (c1 : C ≤ 1048576) (h1 : I.length + M.length ≤ 400000) (h2 : O.length ≤ 600000) (h3 : 0 < I.length + M.length) :
    PCalls Try.prog 104 [S4 C I O M] (.tup [S4 C (tqReclaim C ⟨I, O, M⟩).1.I (tqReclaim C ⟨I, O, M⟩).1.O (tqReclaim C ⟨I, O, M⟩).1.M, .sc (.int .u64 (tqReclaim C ⟨I, O, M⟩).2)]) := by
  obtain ⟨w1, w2, d0, d1, d2⟩ := div_facts c0 c1
  have main : ∀ kn : Int, kn = kin C → True := fun _ _ => trivial
  have hrec : ∀ b : Bool, (b = true ↔ (I.length : Int) > kin C ∨ M = []) → tqReclaim C ⟨I, O, M⟩ = if b then (⟨I.take (I.length - 1), tqPut C O (lastD I), M⟩, lastD I) else (⟨I, O, M.take (M.length - 1)⟩, lastD M) := by
    intro b hb
    unfold tqReclaim
    cases b with
    | true => rw [if_pos (hb.1 rfl), if_pos rfl]
    | false => rw [if_neg (fun h => by have := hb.2 h; cases this), if_neg (by simp)]
  have hkin : (if C.tdiv 4 < 1 then (1 : Int) else C.tdiv 4) = kin C := by unfold kin; by_cases h : C.tdiv 4 < 1 <;> simp [h] <;> omega
  by_cases hc : (I.length : Int) > kin C ∨ M = []
  · rw [hrec true (by simp [hc])]
    simp only [if_true]
    have hI : I ≠ [] := by
      rintro rfl
      rcases hc with hc | hc
      · have := kin_le C; simp at hc; omega
      · subst hc; simp at h3
    obtain ⟨y, hy, hs, hw, g0, g1, g2⟩ := lastIdx hI (by omega)
    have hl := lastD_get hI
    have hwl := without_len O (lastD I)
    refine PCalls.intro2 Try.func104 rfl rfl Try.ntmps104 Try.results104 (by simp) fun n => ?_; simp (maxSteps := 400000) (dsimp := false) only [w2, axs, axw, aresL, afill, Value.oneCell', Nat.reduceLT, Nat.reduceLeDiff, Nat.reduceEqDiff, Nat.reduceAdd, Nat.reduceMul, Nat.reduceSub, Nat.reduceBEq, Int.reduceLE, Int.reduceLT, Int.reduceToNat, Int.reduceNeg, Int.reduceEq, axt, ftK, ft3, AAll, ftQ, S4, tys]
    by_cases hk : C.tdiv 4 < 1
    · have hkk : kin C = 1 := by rw [← hkin, if_pos hk]
      by_cases hc1 : (I.length : Int) > 1
      · simp (maxSteps := 400000) (dsimp := false) only [hk, U_len, hc1, axs, axw, aresL, afill, Value.oneCell', Nat.reduceLT, Nat.reduceLeDiff, Nat.reduceEqDiff, Nat.reduceAdd, Nat.reduceMul, Nat.reduceSub, Nat.reduceBEq, Int.reduceLE, Int.reduceLT, Int.reduceToNat, Int.reduceNeg, Int.reduceEq, axt, ftK, ft3, AAll, ftQ, S4, tys]
        refine ACallK.strict rfl (rBack I (lastD I) (by omega) hl) (by simp only [SeesL, U_len, hw, g0, g2, U_take, axs, axt, AS.ev, AS.put, upd, inHeap, Nat.reduceLT, Nat.reduceEqDiff, Nat.reduceAdd, Nat.reduceBEq, S4]; exact see48581) ?_; simp (maxSteps := 400000) (dsimp := false) only [U_len, hw, g0, g2, U_take, axs, axw, aresL, afill, Value.oneCell', Nat.reduceLT, Nat.reduceLeDiff, Nat.reduceEqDiff, Nat.reduceAdd, Nat.reduceMul, Nat.reduceSub, Nat.reduceBEq, Int.reduceLE, Int.reduceLT, Int.reduceToNat, Int.reduceNeg, Int.reduceEq, axt, ftK, ft3, AAll, ftQ, S4, tys]
        refine ACallK.strict rfl (rFront O (lastD I) (by omega)) (by simp only [SeesL, axs, axt, AS.ev, AS.put, upd, inHeap, Nat.reduceLT, Nat.reduceEqDiff, Nat.reduceAdd, Nat.reduceBEq, S4]; exact see48581) ?_; simp (maxSteps := 400000) (dsimp := false) only [axs, axw, aresL, afill, Value.oneCell', Nat.reduceLT, Nat.reduceLeDiff, Nat.reduceEqDiff, Nat.reduceAdd, Nat.reduceMul, Nat.reduceSub, Nat.reduceBEq, Int.reduceLE, Int.reduceLT, Int.reduceToNat, Int.reduceNeg, Int.reduceEq, axt, ftK, ft3, AAll, ftQ, S4, tys]
        refine ACallK.strict rfl (rTfall C (I.take (I.length - 1)) (lastD I :: without O (lastD I)) M c0 c1 (by simp; omega)) (by simp only [SeesL, axs, axt, AS.ev, AS.put, upd, inHeap, Nat.reduceLT, Nat.reduceEqDiff, Nat.reduceAdd, Nat.reduceBEq, S4]; exact see48581) ?_; simp (maxSteps := 400000) (dsimp := false) only [axs, axw, aresL, afill, Value.oneCell', Nat.reduceLT, Nat.reduceLeDiff, Nat.reduceEqDiff, Nat.reduceAdd, Nat.reduceMul, Nat.reduceSub, Nat.reduceBEq, Int.reduceLE, Int.reduceLT, Int.reduceToNat, Int.reduceNeg, Int.reduceEq, axt, ftK, ft3, AAll, ftQ, S4, tys]
        refine ⟨_, rfl, ?_⟩; simp (maxSteps := 400000) (dsimp := false) only [SeesL, tqPut, axs, axw, aresL, afill, Value.oneCell', Nat.reduceLT, Nat.reduceLeDiff, Nat.reduceEqDiff, Nat.reduceAdd, Nat.reduceMul, Nat.reduceSub, Nat.reduceBEq, Int.reduceLE, Int.reduceLT, Int.reduceToNat, Int.reduceNeg, Int.reduceEq, axt, ftK, ft3, AAll, ftQ, S4, tys] <;> exact see48580
      · have hm : M = [] := hc.resolve_left (by rw [hkk]; exact hc1)
        subst hm
        simp (maxSteps := 400000) (dsimp := false) only [hk, U_len, hc1, U_nil, axs, axw, aresL, afill, Value.oneCell', Nat.reduceLT, Nat.reduceLeDiff, Nat.reduceEqDiff, Nat.reduceAdd, Nat.reduceMul, Nat.reduceSub, Nat.reduceBEq, Int.reduceLE, Int.reduceLT, Int.reduceToNat, Int.reduceNeg, Int.reduceEq, axt, ftK, ft3, AAll, ftQ, S4, tys]
        refine ACallK.strict rfl (rBack I (lastD I) (by omega) hl) (by simp only [SeesL, U_len, hw, g0, g2, U_take, axs, axt, AS.ev, AS.put, upd, inHeap, Nat.reduceLT, Nat.reduceEqDiff, Nat.reduceAdd, Nat.reduceBEq, S4]; exact see48581) ?_; simp (maxSteps := 400000) (dsimp := false) only [U_len, hw, g0, g2, U_take, axs, axw, aresL, afill, Value.oneCell', Nat.reduceLT, Nat.reduceLeDiff, Nat.reduceEqDiff, Nat.reduceAdd, Nat.reduceMul, Nat.reduceSub, Nat.reduceBEq, Int.reduceLE, Int.reduceLT, Int.reduceToNat, Int.reduceNeg, Int.reduceEq, axt, ftK, ft3, AAll, ftQ, S4, tys]
        refine ACallK.strict rfl (rFront O (lastD I) (by omega)) (by simp only [SeesL, axs, axt, AS.ev, AS.put, upd, inHeap, Nat.reduceLT, Nat.reduceEqDiff, Nat.reduceAdd, Nat.reduceBEq, S4]; exact see48581) ?_; simp (maxSteps := 400000) (dsimp := false) only [axs, axw, aresL, afill, Value.oneCell', Nat.reduceLT, Nat.reduceLeDiff, Nat.reduceEqDiff, Nat.reduceAdd, Nat.reduceMul, Nat.reduceSub, Nat.reduceBEq, Int.reduceLE, Int.reduceLT, Int.reduceToNat, Int.reduceNeg, Int.reduceEq, axt, ftK, ft3, AAll, ftQ, S4, tys]
        refine ACallK.strict rfl (rTfall C (I.take (I.length - 1)) (lastD I :: without O (lastD I)) [] c0 c1 (by simp; omega)) (by simp only [SeesL, axs, axt, AS.ev, AS.put, upd, inHeap, Nat.reduceLT, Nat.reduceEqDiff, Nat.reduceAdd, Nat.reduceBEq, S4]; exact see48581) ?_; simp (maxSteps := 400000) (dsimp := false) only [axs, axw, aresL, afill, Value.oneCell', Nat.reduceLT, Nat.reduceLeDiff, Nat.reduceEqDiff, Nat.reduceAdd, Nat.reduceMul, Nat.reduceSub, Nat.reduceBEq, Int.reduceLE, Int.reduceLT, Int.reduceToNat, Int.reduceNeg, Int.reduceEq, axt, ftK, ft3, AAll, ftQ, S4, tys]
        refine ⟨_, rfl, ?_⟩; simp (maxSteps := 400000) (dsimp := false) only [SeesL, tqPut, axs, axw, aresL, afill, Value.oneCell', Nat.reduceLT, Nat.reduceLeDiff, Nat.reduceEqDiff, Nat.reduceAdd, Nat.reduceMul, Nat.reduceSub, Nat.reduceBEq, Int.reduceLE, Int.reduceLT, Int.reduceToNat, Int.reduceNeg, Int.reduceEq, axt, ftK, ft3, AAll, ftQ, S4, tys] <;> exact see48580
    · have hkk : kin C = C.tdiv 4 := by rw [← hkin, if_neg hk]
      by_cases hc1 : (I.length : Int) > C.tdiv 4
      · simp (maxSteps := 400000) (dsimp := false) only [hk, U_len, hc1, axs, axw, aresL, afill, Value.oneCell', Nat.reduceLT, Nat.reduceLeDiff, Nat.reduceEqDiff, Nat.reduceAdd, Nat.reduceMul, Nat.reduceSub, Nat.reduceBEq, Int.reduceLE, Int.reduceLT, Int.reduceToNat, Int.reduceNeg, Int.reduceEq, axt, ftK, ft3, AAll, ftQ, S4, tys]
        refine ACallK.strict rfl (rBack I (lastD I) (by omega) hl) (by simp only [SeesL, U_len, hw, g0, g2, U_take, axs, axt, AS.ev, AS.put, upd, inHeap, Nat.reduceLT, Nat.reduceEqDiff, Nat.reduceAdd, Nat.reduceBEq, S4]; exact see48581) ?_; simp (maxSteps := 400000) (dsimp := false) only [U_len, hw, g0, g2, U_take, axs, axw, aresL, afill, Value.oneCell', Nat.reduceLT, Nat.reduceLeDiff, Nat.reduceEqDiff, Nat.reduceAdd, Nat.reduceMul, Nat.reduceSub, Nat.reduceBEq, Int.reduceLE, Int.reduceLT, Int.reduceToNat, Int.reduceNeg, Int.reduceEq, axt, ftK, ft3, AAll, ftQ, S4, tys]
        refine ACallK.strict rfl (rFront O (lastD I) (by omega)) (by simp only [SeesL, axs, axt, AS.ev, AS.put, upd, inHeap, Nat.reduceLT, Nat.reduceEqDiff, Nat.reduceAdd, Nat.reduceBEq, S4]; exact see48581) ?_; simp (maxSteps := 400000) (dsimp := false) only [axs, axw, aresL, afill, Value.oneCell', Nat.reduceLT, Nat.reduceLeDiff, Nat.reduceEqDiff, Nat.reduceAdd, Nat.reduceMul, Nat.reduceSub, Nat.reduceBEq, Int.reduceLE, Int.reduceLT, Int.reduceToNat, Int.reduceNeg, Int.reduceEq, axt, ftK, ft3, AAll, ftQ, S4, tys]
        refine ACallK.strict rfl (rTfall C (I.take (I.length - 1)) (lastD I :: without O (lastD I)) M c0 c1 (by simp; omega)) (by simp only [SeesL, axs, axt, AS.ev, AS.put, upd, inHeap, Nat.reduceLT, Nat.reduceEqDiff, Nat.reduceAdd, Nat.reduceBEq, S4]; exact see48581) ?_; simp (maxSteps := 400000) (dsimp := false) only [axs, axw, aresL, afill, Value.oneCell', Nat.reduceLT, Nat.reduceLeDiff, Nat.reduceEqDiff, Nat.reduceAdd, Nat.reduceMul, Nat.reduceSub, Nat.reduceBEq, Int.reduceLE, Int.reduceLT, Int.reduceToNat, Int.reduceNeg, Int.reduceEq, axt, ftK, ft3, AAll, ftQ, S4, tys]
        refine ⟨_, rfl, ?_⟩; simp (maxSteps := 400000) (dsimp := false) only [SeesL, tqPut, axs, axw, aresL, afill, Value.oneCell', Nat.reduceLT, Nat.reduceLeDiff, Nat.reduceEqDiff, Nat.reduceAdd, Nat.reduceMul, Nat.reduceSub, Nat.reduceBEq, Int.reduceLE, Int.reduceLT, Int.reduceToNat, Int.reduceNeg, Int.reduceEq, axt, ftK, ft3, AAll, ftQ, S4, tys] <;> exact see48580
      · have hm : M = [] := hc.resolve_left (by rw [hkk]; exact hc1)
        subst hm
        simp (maxSteps := 400000) (dsimp := false) only [hk, U_len, hc1, U_nil, axs, axw, aresL, afill, Value.oneCell', Nat.reduceLT, Nat.reduceLeDiff, Nat.reduceEqDiff, Nat.reduceAdd, Nat.reduceMul, Nat.reduceSub, Nat.reduceBEq, Int.reduceLE, Int.reduceLT, Int.reduceToNat, Int.reduceNeg, Int.reduceEq, axt, ftK, ft3, AAll, ftQ, S4, tys]
        refine ACallK.strict rfl (rBack I (lastD I) (by omega) hl) (by simp only [SeesL, U_len, hw, g0, g2, U_take, axs, axt, AS.ev, AS.put, upd, inHeap, Nat.reduceLT, Nat.reduceEqDiff, Nat.reduceAdd, Nat.reduceBEq, S4]; exact see48581) ?_; simp (maxSteps := 400000) (dsimp := false) only [U_len, hw, g0, g2, U_take, axs, axw, aresL, afill, Value.oneCell', Nat.reduceLT, Nat.reduceLeDiff, Nat.reduceEqDiff, Nat.reduceAdd, Nat.reduceMul, Nat.reduceSub, Nat.reduceBEq, Int.reduceLE, Int.reduceLT, Int.reduceToNat, Int.reduceNeg, Int.reduceEq, axt, ftK, ft3, AAll, ftQ, S4, tys]
        refine ACallK.strict rfl (rFront O (lastD I) (by omega)) (by simp only [SeesL, axs, axt, AS.ev, AS.put, upd, inHeap, Nat.reduceLT, Nat.reduceEqDiff, Nat.reduceAdd, Nat.reduceBEq, S4]; exact see48581) ?_; simp (maxSteps := 400000) (dsimp := false) only [axs, axw, aresL, afill, Value.oneCell', Nat.reduceLT, Nat.reduceLeDiff, Nat.reduceEqDiff, Nat.reduceAdd, Nat.reduceMul, Nat.reduceSub, Nat.reduceBEq, Int.reduceLE, Int.reduceLT, Int.reduceToNat, Int.reduceNeg, Int.reduceEq, axt, ftK, ft3, AAll, ftQ, S4, tys]
        refine ACallK.strict rfl (rTfall C (I.take (I.length - 1)) (lastD I :: without O (lastD I)) [] c0 c1 (by simp; omega)) (by simp only [SeesL, axs, axt, AS.ev, AS.put, upd, inHeap, Nat.reduceLT, Nat.reduceEqDiff, Nat.reduceAdd, Nat.reduceBEq, S4]; exact see48581) ?_; simp (maxSteps := 400000) (dsimp := false) only [axs, axw, aresL, afill, Value.oneCell', Nat.reduceLT, Nat.reduceLeDiff, Nat.reduceEqDiff, Nat.reduceAdd, Nat.reduceMul, Nat.reduceSub, Nat.reduceBEq, Int.reduceLE, Int.reduceLT, Int.reduceToNat, Int.reduceNeg, Int.reduceEq, axt, ftK, ft3, AAll, ftQ, S4, tys]
        refine ⟨_, rfl, ?_⟩; simp (maxSteps := 400000) (dsimp := false) only [SeesL, tqPut, axs, axw, aresL, afill, Value.oneCell', Nat.reduceLT, Nat.reduceLeDiff, Nat.reduceEqDiff, Nat.reduceAdd, Nat.reduceMul, Nat.reduceSub, Nat.reduceBEq, Int.reduceLE, Int.reduceLT, Int.reduceToNat, Int.reduceNeg, Int.reduceEq, axt, ftK, ft3, AAll, ftQ, S4, tys] <;> exact see48580
  · rw [hrec false (by simp [hc])]
    simp only [Bool.false_eq_true, if_false]
    have hM : M ≠ [] := fun h => hc (.inr h)
    have hc0 : ¬ (I.length : Int) > kin C := fun h => hc (.inl h)
    obtain ⟨y, hy, hs, hw, g0, g1, g2⟩ := lastIdx hM (by omega)
    have hl := lastD_get hM
    have hm0 : ¬ (M.length : Int) = 0 := by have := List.length_pos_iff.2 hM; omega
    refine PCalls.intro2 Try.func104 rfl rfl Try.ntmps104 Try.results104 (by simp) fun n => ?_; simp (maxSteps := 400000) (dsimp := false) only [w2, axs, axw, aresL, afill, Value.oneCell', Nat.reduceLT, Nat.reduceLeDiff, Nat.reduceEqDiff, Nat.reduceAdd, Nat.reduceMul, Nat.reduceSub, Nat.reduceBEq, Int.reduceLE, Int.reduceLT, Int.reduceToNat, Int.reduceNeg, Int.reduceEq, axt, ftK, ft3, AAll, ftQ, S4, tys]
    by_cases hk : C.tdiv 4 < 1
    · have hc1 : ¬ (I.length : Int) > 1 := by rw [← hkin, if_pos hk] at hc0; exact hc0
      simp (maxSteps := 400000) (dsimp := false) only [hk, U_len, hc1, hm0, axs, axw, aresL, afill, Value.oneCell', Nat.reduceLT, Nat.reduceLeDiff, Nat.reduceEqDiff, Nat.reduceAdd, Nat.reduceMul, Nat.reduceSub, Nat.reduceBEq, Int.reduceLE, Int.reduceLT, Int.reduceToNat, Int.reduceNeg, Int.reduceEq, axt, ftK, ft3, AAll, ftQ, S4, tys]
      refine ACallK.strict rfl (rBack M (lastD M) (by omega) hl) (by simp only [SeesL, U_len, hw, g0, g2, U_take, axs, axt, AS.ev, AS.put, upd, inHeap, Nat.reduceLT, Nat.reduceEqDiff, Nat.reduceAdd, Nat.reduceBEq, S4]; exact see48581) ?_; simp (maxSteps := 400000) (dsimp := false) only [U_len, hw, g0, g2, U_take, axs, axw, aresL, afill, Value.oneCell', Nat.reduceLT, Nat.reduceLeDiff, Nat.reduceEqDiff, Nat.reduceAdd, Nat.reduceMul, Nat.reduceSub, Nat.reduceBEq, Int.reduceLE, Int.reduceLT, Int.reduceToNat, Int.reduceNeg, Int.reduceEq, axt, ftK, ft3, AAll, ftQ, S4, tys]
      refine ⟨_, rfl, ?_⟩; simp (maxSteps := 400000) (dsimp := false) only [SeesL, axs, axw, aresL, afill, Value.oneCell', Nat.reduceLT, Nat.reduceLeDiff, Nat.reduceEqDiff, Nat.reduceAdd, Nat.reduceMul, Nat.reduceSub, Nat.reduceBEq, Int.reduceLE, Int.reduceLT, Int.reduceToNat, Int.reduceNeg, Int.reduceEq, axt, ftK, ft3, AAll, ftQ, S4, tys] <;> exact see48580
    · have hc1 : ¬ (I.length : Int) > C.tdiv 4 := by rw [← hkin, if_neg hk] at hc0; exact hc0
      simp (maxSteps := 400000) (dsimp := false) only [hk, U_len, hc1, hm0, axs, axw, aresL, afill, Value.oneCell', Nat.reduceLT, Nat.reduceLeDiff, Nat.reduceEqDiff, Nat.reduceAdd, Nat.reduceMul, Nat.reduceSub, Nat.reduceBEq, Int.reduceLE, Int.reduceLT, Int.reduceToNat, Int.reduceNeg, Int.reduceEq, axt, ftK, ft3, AAll, ftQ, S4, tys]
      refine ACallK.strict rfl (rBack M (lastD M) (by omega) hl) (by simp only [SeesL, U_len, hw, g0, g2, U_take, axs, axt, AS.ev, AS.put, upd, inHeap, Nat.reduceLT, Nat.reduceEqDiff, Nat.reduceAdd, Nat.reduceBEq, S4]; exact see48581) ?_; simp (maxSteps := 400000) (dsimp := false) only [U_len, hw, g0, g2, U_take, axs, axw, aresL, afill, Value.oneCell', Nat.reduceLT, Nat.reduceLeDiff, Nat.reduceEqDiff, Nat.reduceAdd, Nat.reduceMul, Nat.reduceSub, Nat.reduceBEq, Int.reduceLE, Int.reduceLT, Int.reduceToNat, Int.reduceNeg, Int.reduceEq, axt, ftK, ft3, AAll, ftQ, S4, tys]
      refine ⟨_, rfl, ?_⟩; simp (maxSteps := 400000) (dsimp := false) only [SeesL, axs, axw, aresL, afill, Value.oneCell', Nat.reduceLT, Nat.reduceLeDiff, Nat.reduceEqDiff, Nat.reduceAdd, Nat.reduceMul, Nat.reduceSub, Nat.reduceBEq, Int.reduceLE, Int.reduceLT, Int.reduceToNat, Int.reduceNeg, Int.reduceEq, axt, ftK, ft3, AAll, ftQ, S4, tys] <;> exact see48580
theorem tqReclaim_len {C : Int} {s : TQ} (c0 : 1 ≤ C) (c1 : C ≤ 1048576) (h : 0 < s.I.length + s.M.length) (ho : s.O.length ≤ 600000) :
    (tqReclaim C s).1.I.length + (tqReclaim C s).1.M.length = s.I.length + s.M.length - 1 ∧ (tqReclaim C s).1.O.length ≤ 600000 := by
  have hp := tqPut_len s.O (lastD s.I) c0 c1
  unfold tqReclaim
  split
  · rename_i hc
    have : 0 < s.I.length := by
      rcases hc with hc | hc
      · have := kin_le C; omega
      · rw [hc] at h; simpa using h
    refine ⟨?_, by show (tqPut _ _ _).length ≤ _; omega⟩
    show (s.I.take _).length + s.M.length = _
    rw [List.length_take]; omega
  · rename_i hc
    have : 0 < s.M.length := List.length_pos_iff.2 fun h => hc (.inr h)
    refine ⟨?_, ho⟩
    show s.I.length + (s.M.take _).length = _
    rw [List.length_take]; omega
theorem rTshrink (C : Int) (I O M : List Int) (z : Int) (c0 : 1 ≤ C) (c1 : C ≤ 1048576) (h1 : I.length + M.length ≤ 400000) (h2 : O.length ≤ 600000) (z0 : 0 ≤ z) (R : TQ × List Int) (hR : tqShrink C z (I.length + M.length) ⟨I, O, M⟩ [] = R) :
    PCalls Try.prog 90 [S4 C I O M, .sc (.int .i64 z)] (.tup [S4 C R.1.I R.1.O R.1.M, .lst 1 (U R.2)]) := by
  refine PCalls.intro2 Try.func90 rfl rfl Try.ntmps90 Try.results90 (by simp) fun n => ?_; simp (maxSteps := 400000) (dsimp := false) only [axs, axw, aresL, afill, Value.oneCell', Nat.reduceLT, Nat.reduceLeDiff, Nat.reduceEqDiff, Nat.reduceAdd, Nat.reduceMul, Nat.reduceSub, Nat.reduceBEq, Int.reduceLE, Int.reduceLT, Int.reduceToNat, Int.reduceNeg, Int.reduceEq, axt, ftK, ft3, AAll, ftQ, S4, tys]
  refine ALoop.falls (fun x : TQ × List Int => x.1.I.length + x.1.M.length) (fun x s => x.1.I.length + x.1.M.length ≤ 400000 ∧ x.1.O.length ≤ 600000 ∧ x.1.I.length + x.1.M.length + x.2.length = I.length + M.length ∧ tqShrink C z (x.1.I.length + x.1.M.length) x.1 x.2 = R ∧ s.t 1 = .sc (.int .i64 z) ∧ s.t 2 = .ptr n 4 0 0 ∧ s.t 4 = .ptr (n + 1) 4 0 0 ∧ s.H n = some (.obj 38 4 [[.sc (.int .i64 C), .lst 1 (U x.1.I), .lst 1 (U x.1.O), .lst 1 (U x.1.M)]] false) ∧ s.H (n + 1) = some (.obj 38 4 [[.sc (.int .i64 0), .sc (.slice none 0 0), .sc (.slice none 0 0), .sc (.slice none 0 0)]] false) ∧ Live 54 1 s.H (U x.2) (s.t 6)) (⟨I, O, M⟩, []) ⟨h1, h2, by simp, hR, rfl, rfl, rfl, by simp [upd, neS], by simp [upd, neS], Live.nil⟩ ?_
  rintro ⟨⟨I', O', M'⟩, g⟩ s hb ⟨q1, q2, q3, hS, e1, e2, e4, en, en1, hv⟩
  simp only at q1 q2 q3 hS en hv ⊢
  have hnn := hb _ _ en1
  have w0 : IntKind.i64.wrap ((I'.length : Int) + M'.length) = (I'.length : Int) + M'.length := wrap_in (by omega) (by omega)
  by_cases hc : (I'.length : Int) + M'.length > z
  · obtain ⟨f, hf⟩ : ∃ f, I'.length + M'.length = f + 1 := ⟨I'.length + M'.length - 1, by omega⟩
    have hrl := tqReclaim_len (s := ⟨I', O', M'⟩) c0 c1 (by show 0 < I'.length + M'.length; omega) q2
    rw [hf] at hS
    simp only [tqShrink, if_neg (show ¬ ((I'.length : Int) + M'.length ≤ z) by omega)] at hS
    have hcall := rTreclaim C I' O' M' c0 c1 q1 q2 (by omega)
    generalize tqReclaim C ⟨I', O', M'⟩ = rc at *
    obtain ⟨⟨I2, O2, M2⟩, k⟩ := rc
    simp only at hcall hrl hS
    have hne1 : ¬ n = s.n := by omega
    have hne2 : ¬ n + 1 = s.n := by omega
    have hne3 : ¬ n = s.n + 1 := by omega
    have hne4 : ¬ n + 1 = s.n + 1 := by omega
    have hne5 : ¬ s.n + 1 = n := by omega
    have hne6 : ¬ s.n = n := by omega
    have hne7 : ¬ n = s.n + 1 + 1 := by omega
    have hne8 : ¬ n + 1 = s.n + 1 + 1 := by omega
    have hne9 : ¬ s.n + 1 + 1 = n := by omega
    have hs : U (g ++ [k]) = U g ++ [[.sc (.int .u64 k)]] := U_snoc g k
    have hgl : (U g).length ≤ 1000000 := by rw [U_len]; omega
    have hgl2 : (U g).length = g.length := U_len g
    rcases hv.cases hb with ⟨h7, h8⟩ | ⟨id, hlt2, hne, h7, h8⟩
    · simp (maxSteps := 400000) (dsimp := false) only [e1, e2, e4, en, U_len, w0, hc, axs, axw, aresL, afill, Value.oneCell', Nat.reduceLT, Nat.reduceLeDiff, Nat.reduceEqDiff, Nat.reduceAdd, Nat.reduceMul, Nat.reduceSub, Nat.reduceBEq, Int.reduceLE, Int.reduceLT, Int.reduceToNat, Int.reduceNeg, Int.reduceEq, axt, ftK, ft3, AAll, ftQ, S4, tys]
      refine ACallK.strict rfl (hcall) (by simp only [SeesL, e1, e2, e4, h8, en, en1, hne1, hne2, hne3, hne4, hne5, hne6, hne7, hne8, hne9, axs, axt, AS.ev, AS.put, upd, inHeap, Nat.reduceLT, Nat.reduceEqDiff, Nat.reduceAdd, Nat.reduceBEq, S4]; exact see48581) ?_; simp (maxSteps := 400000) (dsimp := false) only [e1, e2, e4, h8, en, en1, hne1, hne2, hne3, hne4, hne5, hne6, hne7, hne8, hne9, axs, axw, aresL, afill, Value.oneCell', Nat.reduceLT, Nat.reduceLeDiff, Nat.reduceEqDiff, Nat.reduceAdd, Nat.reduceMul, Nat.reduceSub, Nat.reduceBEq, Int.reduceLE, Int.reduceLT, Int.reduceToNat, Int.reduceNeg, Int.reduceEq, axt, ftK, ft3, AAll, ftQ, S4, tys]
      refine ⟨(⟨I2, O2, M2⟩, g ++ [k]), by show I2.length + M2.length < I'.length + M'.length; omega, by show I2.length + M2.length ≤ _; omega, hrl.2, by show I2.length + M2.length + (g ++ [k]).length = _; simp; omega, ?_, rfl, ?_⟩
      · show tqShrink C z (I2.length + M2.length) _ _ = R
        rw [hrl.1, hf, Nat.add_sub_cancel]; exact hS
      · rw [hs, h7]; exact Live.mk (by simp [upd, neS, hne5, hne9]) rfl
    · have b1 : ((U g).length + 1) * 8 ≤ 140737488355328 := by omega
      have b2 : g.length ≤ 1099511627775 := by omega
      have b3 : (g.length + 1) * 8 ≤ 140737488355328 ↔ True := by simp; omega
      have b4 : g.length + 1 ≤ 17592186044416 := by omega
      have hid1 : ¬ id = n := by rintro rfl; rw [en] at h8; simp at h8
      have hid2 : ¬ id = n + 1 := by rintro rfl; rw [en1] at h8; simp at h8
      have hid3 : ¬ n = id := fun h => hid1 h.symm
      have hid4 : ¬ n + 1 = id := fun h => hid2 h.symm
      have hid5 : ¬ id = s.n + 1 := by omega
      have hid6 : ¬ s.n = id := by omega
      rw [U_len] at h7
      simp (maxSteps := 400000) (dsimp := false) only [e1, e2, e4, en, U_len, w0, hc, axs, axw, aresL, afill, Value.oneCell', Nat.reduceLT, Nat.reduceLeDiff, Nat.reduceEqDiff, Nat.reduceAdd, Nat.reduceMul, Nat.reduceSub, Nat.reduceBEq, Int.reduceLE, Int.reduceLT, Int.reduceToNat, Int.reduceNeg, Int.reduceEq, axt, ftK, ft3, AAll, ftQ, S4, tys]
      refine ACallK.strict rfl (hcall) (by simp only [SeesL, e1, e2, e4, h7, h8, en, en1, hne, hid1, hid2, hid3, hid4, hid5, hid6, hne1, hne2, hne3, hne4, hne5, hne6, hne7, hne8, hne9, b3, b4, b2, U_len, axs, axt, AS.ev, AS.put, upd, inHeap, Nat.reduceLT, Nat.reduceEqDiff, Nat.reduceAdd, Nat.reduceBEq, S4]; exact see48581) ?_; simp (maxSteps := 400000) (dsimp := false) only [e1, e2, e4, h7, h8, en, en1, hne, hid1, hid2, hid3, hid4, hid5, hid6, hne1, hne2, hne3, hne4, hne5, hne6, hne7, hne8, hne9, b3, b4, b2, U_len, axs, axw, aresL, afill, Value.oneCell', Nat.reduceLT, Nat.reduceLeDiff, Nat.reduceEqDiff, Nat.reduceAdd, Nat.reduceMul, Nat.reduceSub, Nat.reduceBEq, Int.reduceLE, Int.reduceLT, Int.reduceToNat, Int.reduceNeg, Int.reduceEq, axt, ftK, ft3, AAll, ftQ, S4, tys]
      refine ⟨(⟨I2, O2, M2⟩, g ++ [k]), by show I2.length + M2.length < I'.length + M'.length; omega, by show I2.length + M2.length ≤ _; omega, hrl.2, by show I2.length + M2.length + (g ++ [k]).length = _; simp; omega, ?_, rfl, ?_⟩
      · show tqShrink C z (I2.length + M2.length) _ _ = R
        rw [hrl.1, hf, Nat.add_sub_cancel]; exact hS
      · rw [hs]; exact Live.mk (by simp [upd, neS, hne5, hne9]) (by simp [U_len])
  · have hres : R = (⟨I', O', M'⟩, g) := by
      rw [← hS]
      cases hsz : I'.length + M'.length with
      | zero => rfl
      | succ f => simp only [tqShrink]; rw [if_pos (by omega)]
    subst hres
    simp (maxSteps := 400000) (dsimp := false) only [e1, e2, e4, en, en1, U_len, w0, hc, axs, axw, aresL, afill, Value.oneCell', Nat.reduceLT, Nat.reduceLeDiff, Nat.reduceEqDiff, Nat.reduceAdd, Nat.reduceMul, Nat.reduceSub, Nat.reduceBEq, Int.reduceLE, Int.reduceLT, Int.reduceToNat, Int.reduceNeg, Int.reduceEq, axt, ftK, ft3, AAll, ftQ, S4, tys]
    refine ⟨_, rfl, Sees.tup ?_⟩
    simp only [SeesL]
    refine ⟨Sees.same (by simp [S4, noIds, noIdsL, noIdsE_U]), ?_, trivial⟩
    rcases hv with ⟨h7, h8⟩ | ⟨id, h7, h8⟩
    · rw [h8, h7]; exact Sees.none
    · have hid2 : ¬ id = n + 1 := by rintro rfl; rw [en1] at h8; simp at h8
      rw [h7]
      exact Sees.obj ⟨_, _, (upd_ne _ _ hid2).trans h8, rfl⟩ rfl (noIdsE_U _)
end Go.Al
end
section
set_option linter.unusedVariables false
set_option linter.unusedSimpArgs false
set_option maxRecDepth 20000
set_option maxHeartbeats 1600000
-- axs, axw, aresL, afill, Value.oneCell', Nat.reduceLT, Nat.reduceLeDiff, Nat.reduceEqDiff, Nat.reduceAdd, Nat.reduceMul, Nat.reduceSub, Nat.reduceBEq, Int.reduceLE, Int.reduceLT, Int.reduceToNat, Int.reduceNeg, Int.reduceEq, axt, ftK, ft3, AAll, ftQ, S4, tys: S4
namespace Go.Al
open Go.Proofs
end Go.Al
end
section
set_option linter.unusedVariables false
set_option linter.unusedSimpArgs false
set_option maxRecDepth 20000
set_option maxHeartbeats 1600000
-- axs, axw, aresL, afill, Value.oneCell', Nat.reduceLT, Nat.reduceLeDiff, Nat.reduceEqDiff, Nat.reduceAdd, Nat.reduceMul, Nat.reduceSub, Nat.reduceBEq, Int.reduceLE, Int.reduceLT, Int.reduceToNat, Int.reduceNeg, Int.reduceEq, axt, ftK, ft3, AAll, ftQ, S4, tys: S4
namespace Go.Al
open Go.Proofs
theorem tqShrink_len {C z : Int} (c0 : 1 ≤ C) (c1 : C ≤ 1048576) (z0 : 0 ≤ z) : ∀ (f : Nat) (s : TQ) (g : List Int), s.I.length + s.M.length = f → s.O.length ≤ 600000 →
    (tqShrink C z f s g).1.I.length + (tqShrink C z f s g).1.M.length + (tqShrink C z f s g).2.length = f + g.length ∧ (tqShrink C z f s g).1.O.length ≤ 600000 ∧ (((tqShrink C z f s g).1.I.length + (tqShrink C z f s g).1.M.length : Nat) : Int) = min (f : Int) z
  | 0, s, g, h, ho => by
    show s.I.length + s.M.length + g.length = 0 + g.length ∧ s.O.length ≤ 600000 ∧ ((s.I.length + s.M.length : Nat) : Int) = _
    exact ⟨by omega, ho, by omega⟩
  | f + 1, s, g, h, ho => by
    unfold tqShrink
    by_cases hc : (s.I.length + s.M.length : Int) ≤ z
    · rw [if_pos hc]
      exact ⟨by show s.I.length + s.M.length + g.length = _; omega, ho, by show ((s.I.length + s.M.length : Nat) : Int) = _; omega⟩
    · rw [if_neg hc]
      obtain ⟨l1, l2⟩ := tqReclaim_len (s := s) c0 c1 (by omega) ho
      obtain ⟨m1, m2, m3⟩ := tqShrink_len c0 c1 z0 f (tqReclaim C s).1 (g ++ [(tqReclaim C s).2]) (by omega) l2
      exact ⟨by rw [m1]; simp; omega, m2, by rw [m3]; omega⟩
theorem rTKeys (C : Int) (I O M : List Int) (h1 : I.length ≤ 400000) (h3 : M.length ≤ 400000) : PCalls Try.prog 50 [S4 C I O M] (.lst 1 (U (I ++ M))) := by
  have b1 : I.length * 8 ≤ 140737488355328 := by omega
  have b2 : I.length ≤ 1099511627776 := by omega
  have b3 : (I.length + M.length) * 8 ≤ 140737488355328 := by omega
  have b4 : I.length + M.length ≤ 1099511627776 := by omega
  refine PCalls.intro2 Try.func50 rfl rfl Try.ntmps50 Try.results50 (by simp) fun n => ?_; simp (maxSteps := 400000) (dsimp := false) only [axs, axw, aresL, afill, Value.oneCell', Nat.reduceLT, Nat.reduceLeDiff, Nat.reduceEqDiff, Nat.reduceAdd, Nat.reduceMul, Nat.reduceSub, Nat.reduceBEq, Int.reduceLE, Int.reduceLT, Int.reduceToNat, Int.reduceNeg, Int.reduceEq, axt, ftK, ft3, AAll, ftQ, S4, tys]
  refine ADraw.tree [] [(1, true), (2, true), (4, true)] 4 (.fork [(0, true)] (.leaf [(3, true), (5, true), (6, true), (7, true)]) (.leaf [(5, true), (3, true), (6, true), (7, true)])) (.leaf [(5, true), (0, true), (3, true), (6, true), (7, true)]) mixed (by kernel_rfl) ?_
  simp (maxSteps := 400000) (dsimp := false) only [U_len, b1, b2, b3, b4, axs, axw, aresL, afill, Value.oneCell', Nat.reduceLT, Nat.reduceLeDiff, Nat.reduceEqDiff, Nat.reduceAdd, Nat.reduceMul, Nat.reduceSub, Nat.reduceBEq, Int.reduceLE, Int.reduceLT, Int.reduceToNat, Int.reduceNeg, Int.reduceEq, axt, ftK, ft3, AAll, ftQ, S4, tys]
  refine ⟨⟨⟨_, rfl, ?_⟩, ⟨_, rfl, ?_⟩⟩, ⟨_, rfl, ?_⟩⟩ <;> (rw [U_append]; refine Sees.obj ⟨_, _, if_pos rfl, rfl⟩ (by simp [U_len]) ?_; rw [← U_append]; exact noIdsE_U _)
def tqTouch (s : TQ) (k : Int) : TQ := if k ∈ s.M then ⟨s.I, s.O, k :: without s.M k⟩ else s
theorem seee2310 {p : Prop} (h : p := by repeat' (first | exact True.intro | exact Sees.sc | exact Sees.none | ((with_reducible refine Sees.same ?_) <;> simp [noIds, noIdsL, noIdsE, noIdsE_U, noIdsE_UU] <;> fail) | (refine Live.sees ?_ ?_ <;> first | assumption | (simp [noIdsE_U, noIdsE_UU] <;> fail)) | (refine Sees.obj ?_ ?_ ?_ <;> first | exact ⟨_, _, by assumption, rfl⟩ | (simp [U_len, UU_len] <;> fail) | (simp [noIdsE_U, noIdsE_UU] <;> fail) | (simp [U, UU, upd] <;> fail) | (simp [U, UU, upd, neS, *] <;> fail)) | (refine Sees.of_seen 3 ?_ <;> simp [seen, upd, noIdsE, noIdsL, noIds, U, UU, Nat.add_assoc] <;> fail) | refine Sees.agg ?_ | refine And.intro ?_ ?_ | simp only [SeesL])) : p := h
theorem seee2311 {p : Prop} (h : p := by repeat' (first | exact True.intro | exact Sees.sc | exact Sees.none | ((with_reducible refine Sees.same ?_) <;> simp [noIds, noIdsL, noIdsE, noIdsE_U, noIdsE_UU] <;> fail) | (refine Live.sees ?_ ?_ <;> first | assumption | (simp [noIdsE_U, noIdsE_UU] <;> fail)) | (refine Sees.obj ?_ ?_ ?_ <;> first | exact ⟨_, _, by assumption, rfl⟩ | (simp [U_len, UU_len] <;> fail) | (simp [noIdsE_U, noIdsE_UU] <;> fail) | (simp [U, UU, upd, neS] <;> fail) | (simp [U, UU, upd, neS, *] <;> fail)) | refine Sees.agg ?_ | refine Sees.tup ?_ | refine And.intro ?_ ?_ | simp only [SeesL])) : p := h
theorem rTTouch (C : Int) (I O M : List Int) (k : Int) (h1 : I.length ≤ 400000) (h2 : O.length ≤ 600000) (h3 : M.length ≤ 400000) : PCalls Try.prog 55 [S4 C I O M, .sc (.int .u64 k)] (S4 C (tqTouch ⟨I, O, M⟩ k).I (tqTouch ⟨I, O, M⟩ k).O (tqTouch ⟨I, O, M⟩ k).M) := by
  unfold tqTouch
  refine PCalls.intro2 Try.func55 rfl rfl Try.ntmps55 Try.results55 (by simp) fun n => ?_; simp (maxSteps := 400000) (dsimp := false) only [axs, axw, aresL, afill, Value.oneCell', Nat.reduceLT, Nat.reduceLeDiff, Nat.reduceEqDiff, Nat.reduceAdd, Nat.reduceMul, Nat.reduceSub, Nat.reduceBEq, Int.reduceLE, Int.reduceLT, Int.reduceToNat, Int.reduceNeg, Int.reduceEq, axt, ftK, ft3, AAll, ftQ, S4, tys]
  by_cases h : k ∈ M
  · refine ACallK.strict rfl (rHas M k (by omega)) (by simp only [SeesL, h, axs, axt, AS.ev, AS.put, upd, inHeap, Nat.reduceLT, Nat.reduceEqDiff, Nat.reduceAdd, Nat.reduceBEq, S4]; exact seee2310) ?_; simp (maxSteps := 400000) (dsimp := false) only [h, axs, axw, aresL, afill, Value.oneCell', Nat.reduceLT, Nat.reduceLeDiff, Nat.reduceEqDiff, Nat.reduceAdd, Nat.reduceMul, Nat.reduceSub, Nat.reduceBEq, Int.reduceLE, Int.reduceLT, Int.reduceToNat, Int.reduceNeg, Int.reduceEq, axt, ftK, ft3, AAll, ftQ, S4, tys]
    refine ACallK.strict rfl (rFront M k (by omega)) (by simp only [SeesL, axs, axt, AS.ev, AS.put, upd, inHeap, Nat.reduceLT, Nat.reduceEqDiff, Nat.reduceAdd, Nat.reduceBEq, S4]; exact seee2310) ?_; simp (maxSteps := 400000) (dsimp := false) only [axs, axw, aresL, afill, Value.oneCell', Nat.reduceLT, Nat.reduceLeDiff, Nat.reduceEqDiff, Nat.reduceAdd, Nat.reduceMul, Nat.reduceSub, Nat.reduceBEq, Int.reduceLE, Int.reduceLT, Int.reduceToNat, Int.reduceNeg, Int.reduceEq, axt, ftK, ft3, AAll, ftQ, S4, tys]
    refine ⟨_, rfl, ?_⟩; simp (maxSteps := 400000) (dsimp := false) only [SeesL, h, axs, axw, aresL, afill, Value.oneCell', Nat.reduceLT, Nat.reduceLeDiff, Nat.reduceEqDiff, Nat.reduceAdd, Nat.reduceMul, Nat.reduceSub, Nat.reduceBEq, Int.reduceLE, Int.reduceLT, Int.reduceToNat, Int.reduceNeg, Int.reduceEq, axt, ftK, ft3, AAll, ftQ, S4, tys] <;> exact seee2311
  · refine ACallK.strict rfl (rHas M k (by omega)) (by simp only [SeesL, h, axs, axt, AS.ev, AS.put, upd, inHeap, Nat.reduceLT, Nat.reduceEqDiff, Nat.reduceAdd, Nat.reduceBEq, S4]; exact seee2310) ?_; simp (maxSteps := 400000) (dsimp := false) only [h, axs, axw, aresL, afill, Value.oneCell', Nat.reduceLT, Nat.reduceLeDiff, Nat.reduceEqDiff, Nat.reduceAdd, Nat.reduceMul, Nat.reduceSub, Nat.reduceBEq, Int.reduceLE, Int.reduceLT, Int.reduceToNat, Int.reduceNeg, Int.reduceEq, axt, ftK, ft3, AAll, ftQ, S4, tys]
    refine ⟨_, rfl, ?_⟩; simp (maxSteps := 400000) (dsimp := false) only [SeesL, h, axs, axw, aresL, afill, Value.oneCell', Nat.reduceLT, Nat.reduceLeDiff, Nat.reduceEqDiff, Nat.reduceAdd, Nat.reduceMul, Nat.reduceSub, Nat.reduceBEq, Int.reduceLE, Int.reduceLT, Int.reduceToNat, Int.reduceNeg, Int.reduceEq, axt, ftK, ft3, AAll, ftQ, S4, tys] <;> exact seee2311
def tqAdmit (C : Int) (s : TQ) (k : Int) : TQ × List Int :=
  if k ∈ s.I ++ s.M then (s, [])
  else if k ∈ s.O then (⟨(tqShrink C (C - 1) (s.I.length + s.M.length) ⟨s.I, without s.O k, s.M⟩ []).1.I, (tqShrink C (C - 1) (s.I.length + s.M.length) ⟨s.I, without s.O k, s.M⟩ []).1.O, k :: without (tqShrink C (C - 1) (s.I.length + s.M.length) ⟨s.I, without s.O k, s.M⟩ []).1.M k⟩, (tqShrink C (C - 1) (s.I.length + s.M.length) ⟨s.I, without s.O k, s.M⟩ []).2)
  else (⟨k :: without (tqShrink C (C - 1) (s.I.length + s.M.length) ⟨s.I, without s.O k, s.M⟩ []).1.I k, (tqShrink C (C - 1) (s.I.length + s.M.length) ⟨s.I, without s.O k, s.M⟩ []).1.O, (tqShrink C (C - 1) (s.I.length + s.M.length) ⟨s.I, without s.O k, s.M⟩ []).1.M⟩, (tqShrink C (C - 1) (s.I.length + s.M.length) ⟨s.I, without s.O k, s.M⟩ []).2)
theorem rTAdmit (C : Int) (I O M : List Int) (k : Int) (c0 : 1 ≤ C) (c1 : C ≤ 1048576) (h1 : I.length + M.length ≤ 400000) (h2 : O.length ≤ 600000) : PCalls Try.prog 83 [S4 C I O M, .sc (.int .u64 k)] (.tup [S4 C (tqAdmit C ⟨I, O, M⟩ k).1.I (tqAdmit C ⟨I, O, M⟩ k).1.O (tqAdmit C ⟨I, O, M⟩ k).1.M, .lst 1 (U (tqAdmit C ⟨I, O, M⟩ k).2)]) := by
  unfold tqAdmit
  have w : IntKind.i64.wrap (C - 1) = C - 1 := wrap_in (by omega) (by omega)
  have hwl := without_len O k
  obtain ⟨l1, l2, _⟩ := tqShrink_len (z := C - 1) c0 c1 (by omega) (I.length + M.length) ⟨I, without O k, M⟩ [] rfl (by show (without O k).length ≤ _; omega)
  have hcall := rTshrink C I (without O k) M (C - 1) c0 c1 h1 (by omega) (by omega) _ rfl
  generalize tqShrink C (C - 1) (I.length + M.length) ⟨I, without O k, M⟩ [] = R at *
  simp only [List.length_nil] at l1
  refine PCalls.intro2 Try.func83 rfl rfl Try.ntmps83 Try.results83 (by simp) fun n => ?_; simp (maxSteps := 400000) (dsimp := false) only [axs, axw, aresL, afill, Value.oneCell', Nat.reduceLT, Nat.reduceLeDiff, Nat.reduceEqDiff, Nat.reduceAdd, Nat.reduceMul, Nat.reduceSub, Nat.reduceBEq, Int.reduceLE, Int.reduceLT, Int.reduceToNat, Int.reduceNeg, Int.reduceEq, axt, ftK, ft3, AAll, ftQ, S4, tys]
  refine ACallK.strict rfl (rTKeys C I O M (by omega) (by omega)) (by simp only [SeesL, axs, axt, AS.ev, AS.put, upd, inHeap, Nat.reduceLT, Nat.reduceEqDiff, Nat.reduceAdd, Nat.reduceBEq, S4]; exact seee2310) ?_; simp (maxSteps := 400000) (dsimp := false) only [axs, axw, aresL, afill, Value.oneCell', Nat.reduceLT, Nat.reduceLeDiff, Nat.reduceEqDiff, Nat.reduceAdd, Nat.reduceMul, Nat.reduceSub, Nat.reduceBEq, Int.reduceLE, Int.reduceLT, Int.reduceToNat, Int.reduceNeg, Int.reduceEq, axt, ftK, ft3, AAll, ftQ, S4, tys]
  by_cases h : k ∈ I ++ M
  · refine ACallK.strict rfl (rHas (I ++ M) k (by simp; omega)) (by simp only [SeesL, h, axs, axt, AS.ev, AS.put, upd, inHeap, Nat.reduceLT, Nat.reduceEqDiff, Nat.reduceAdd, Nat.reduceBEq, S4]; exact seee2310) ?_; simp (maxSteps := 400000) (dsimp := false) only [h, axs, axw, aresL, afill, Value.oneCell', Nat.reduceLT, Nat.reduceLeDiff, Nat.reduceEqDiff, Nat.reduceAdd, Nat.reduceMul, Nat.reduceSub, Nat.reduceBEq, Int.reduceLE, Int.reduceLT, Int.reduceToNat, Int.reduceNeg, Int.reduceEq, axt, ftK, ft3, AAll, ftQ, S4, tys]
    refine ⟨_, rfl, ?_⟩; simp (maxSteps := 400000) (dsimp := false) only [SeesL, h, axs, axw, aresL, afill, Value.oneCell', Nat.reduceLT, Nat.reduceLeDiff, Nat.reduceEqDiff, Nat.reduceAdd, Nat.reduceMul, Nat.reduceSub, Nat.reduceBEq, Int.reduceLE, Int.reduceLT, Int.reduceToNat, Int.reduceNeg, Int.reduceEq, axt, ftK, ft3, AAll, ftQ, S4, tys] <;> exact seee2311
  · refine ACallK.strict rfl (rHas (I ++ M) k (by simp; omega)) (by simp only [SeesL, h, axs, axt, AS.ev, AS.put, upd, inHeap, Nat.reduceLT, Nat.reduceEqDiff, Nat.reduceAdd, Nat.reduceBEq, S4]; exact seee2310) ?_; simp (maxSteps := 400000) (dsimp := false) only [h, axs, axw, aresL, afill, Value.oneCell', Nat.reduceLT, Nat.reduceLeDiff, Nat.reduceEqDiff, Nat.reduceAdd, Nat.reduceMul, Nat.reduceSub, Nat.reduceBEq, Int.reduceLE, Int.reduceLT, Int.reduceToNat, Int.reduceNeg, Int.reduceEq, axt, ftK, ft3, AAll, ftQ, S4, tys]
    by_cases hk : k ∈ O
    · refine ACallK.strict rfl (rHas O k (by omega)) (by simp only [SeesL, hk, axs, axt, AS.ev, AS.put, upd, inHeap, Nat.reduceLT, Nat.reduceEqDiff, Nat.reduceAdd, Nat.reduceBEq, S4]; exact seee2310) ?_; simp (maxSteps := 400000) (dsimp := false) only [hk, axs, axw, aresL, afill, Value.oneCell', Nat.reduceLT, Nat.reduceLeDiff, Nat.reduceEqDiff, Nat.reduceAdd, Nat.reduceMul, Nat.reduceSub, Nat.reduceBEq, Int.reduceLE, Int.reduceLT, Int.reduceToNat, Int.reduceNeg, Int.reduceEq, axt, ftK, ft3, AAll, ftQ, S4, tys]
      refine ACallK.strict rfl (rWithout O k (by omega)) (by simp only [SeesL, w, axs, axt, AS.ev, AS.put, upd, inHeap, Nat.reduceLT, Nat.reduceEqDiff, Nat.reduceAdd, Nat.reduceBEq, S4]; exact seee2310) ?_; simp (maxSteps := 400000) (dsimp := false) only [w, axs, axw, aresL, afill, Value.oneCell', Nat.reduceLT, Nat.reduceLeDiff, Nat.reduceEqDiff, Nat.reduceAdd, Nat.reduceMul, Nat.reduceSub, Nat.reduceBEq, Int.reduceLE, Int.reduceLT, Int.reduceToNat, Int.reduceNeg, Int.reduceEq, axt, ftK, ft3, AAll, ftQ, S4, tys]
      refine ACallK.strict rfl (hcall) (by simp only [SeesL, hk, axs, axt, AS.ev, AS.put, upd, inHeap, Nat.reduceLT, Nat.reduceEqDiff, Nat.reduceAdd, Nat.reduceBEq, S4]; exact seee2310) ?_; simp (maxSteps := 400000) (dsimp := false) only [hk, axs, axw, aresL, afill, Value.oneCell', Nat.reduceLT, Nat.reduceLeDiff, Nat.reduceEqDiff, Nat.reduceAdd, Nat.reduceMul, Nat.reduceSub, Nat.reduceBEq, Int.reduceLE, Int.reduceLT, Int.reduceToNat, Int.reduceNeg, Int.reduceEq, axt, ftK, ft3, AAll, ftQ, S4, tys]
      refine ACallK.strict rfl (rFront R.1.M k (by omega)) (by simp only [SeesL, axs, axt, AS.ev, AS.put, upd, inHeap, Nat.reduceLT, Nat.reduceEqDiff, Nat.reduceAdd, Nat.reduceBEq, S4]; exact seee2310) ?_; simp (maxSteps := 400000) (dsimp := false) only [axs, axw, aresL, afill, Value.oneCell', Nat.reduceLT, Nat.reduceLeDiff, Nat.reduceEqDiff, Nat.reduceAdd, Nat.reduceMul, Nat.reduceSub, Nat.reduceBEq, Int.reduceLE, Int.reduceLT, Int.reduceToNat, Int.reduceNeg, Int.reduceEq, axt, ftK, ft3, AAll, ftQ, S4, tys]
      refine ⟨_, rfl, ?_⟩; simp (maxSteps := 400000) (dsimp := false) only [SeesL, h, hk, axs, axw, aresL, afill, Value.oneCell', Nat.reduceLT, Nat.reduceLeDiff, Nat.reduceEqDiff, Nat.reduceAdd, Nat.reduceMul, Nat.reduceSub, Nat.reduceBEq, Int.reduceLE, Int.reduceLT, Int.reduceToNat, Int.reduceNeg, Int.reduceEq, axt, ftK, ft3, AAll, ftQ, S4, tys] <;> exact seee2311
    · refine ACallK.strict rfl (rHas O k (by omega)) (by simp only [SeesL, hk, axs, axt, AS.ev, AS.put, upd, inHeap, Nat.reduceLT, Nat.reduceEqDiff, Nat.reduceAdd, Nat.reduceBEq, S4]; exact seee2310) ?_; simp (maxSteps := 400000) (dsimp := false) only [hk, axs, axw, aresL, afill, Value.oneCell', Nat.reduceLT, Nat.reduceLeDiff, Nat.reduceEqDiff, Nat.reduceAdd, Nat.reduceMul, Nat.reduceSub, Nat.reduceBEq, Int.reduceLE, Int.reduceLT, Int.reduceToNat, Int.reduceNeg, Int.reduceEq, axt, ftK, ft3, AAll, ftQ, S4, tys]
      refine ACallK.strict rfl (rWithout O k (by omega)) (by simp only [SeesL, w, axs, axt, AS.ev, AS.put, upd, inHeap, Nat.reduceLT, Nat.reduceEqDiff, Nat.reduceAdd, Nat.reduceBEq, S4]; exact seee2310) ?_; simp (maxSteps := 400000) (dsimp := false) only [w, axs, axw, aresL, afill, Value.oneCell', Nat.reduceLT, Nat.reduceLeDiff, Nat.reduceEqDiff, Nat.reduceAdd, Nat.reduceMul, Nat.reduceSub, Nat.reduceBEq, Int.reduceLE, Int.reduceLT, Int.reduceToNat, Int.reduceNeg, Int.reduceEq, axt, ftK, ft3, AAll, ftQ, S4, tys]
      refine ACallK.strict rfl (hcall) (by simp only [SeesL, hk, axs, axt, AS.ev, AS.put, upd, inHeap, Nat.reduceLT, Nat.reduceEqDiff, Nat.reduceAdd, Nat.reduceBEq, S4]; exact seee2310) ?_; simp (maxSteps := 400000) (dsimp := false) only [hk, axs, axw, aresL, afill, Value.oneCell', Nat.reduceLT, Nat.reduceLeDiff, Nat.reduceEqDiff, Nat.reduceAdd, Nat.reduceMul, Nat.reduceSub, Nat.reduceBEq, Int.reduceLE, Int.reduceLT, Int.reduceToNat, Int.reduceNeg, Int.reduceEq, axt, ftK, ft3, AAll, ftQ, S4, tys]
      refine ACallK.strict rfl (rFront R.1.I k (by omega)) (by simp only [SeesL, axs, axt, AS.ev, AS.put, upd, inHeap, Nat.reduceLT, Nat.reduceEqDiff, Nat.reduceAdd, Nat.reduceBEq, S4]; exact seee2310) ?_; simp (maxSteps := 400000) (dsimp := false) only [axs, axw, aresL, afill, Value.oneCell', Nat.reduceLT, Nat.reduceLeDiff, Nat.reduceEqDiff, Nat.reduceAdd, Nat.reduceMul, Nat.reduceSub, Nat.reduceBEq, Int.reduceLE, Int.reduceLT, Int.reduceToNat, Int.reduceNeg, Int.reduceEq, axt, ftK, ft3, AAll, ftQ, S4, tys]
      refine ⟨_, rfl, ?_⟩; simp (maxSteps := 400000) (dsimp := false) only [SeesL, h, hk, axs, axw, aresL, afill, Value.oneCell', Nat.reduceLT, Nat.reduceLeDiff, Nat.reduceEqDiff, Nat.reduceAdd, Nat.reduceMul, Nat.reduceSub, Nat.reduceBEq, Int.reduceLE, Int.reduceLT, Int.reduceToNat, Int.reduceNeg, Int.reduceEq, axt, ftK, ft3, AAll, ftQ, S4, tys] <;> exact seee2311
theorem rTDrop (C : Int) (I O M : List Int) (k : Int) (h1 : I.length ≤ 400000) (h2 : O.length ≤ 600000) (h3 : M.length ≤ 400000) : PCalls Try.prog 61 [S4 C I O M, .sc (.int .u64 k)] (S4 C (without I k) (without O k) (without M k)) := by
  refine PCalls.intro2 Try.func61 rfl rfl Try.ntmps61 Try.results61 (by simp) fun n => ?_; simp (maxSteps := 400000) (dsimp := false) only [axs, axw, aresL, afill, Value.oneCell', Nat.reduceLT, Nat.reduceLeDiff, Nat.reduceEqDiff, Nat.reduceAdd, Nat.reduceMul, Nat.reduceSub, Nat.reduceBEq, Int.reduceLE, Int.reduceLT, Int.reduceToNat, Int.reduceNeg, Int.reduceEq, axt, ftK, ft3, AAll, ftQ, S4, tys]
  refine ACallK.strict rfl (rWithout I k (by omega)) (by simp only [SeesL, axs, axt, AS.ev, AS.put, upd, inHeap, Nat.reduceLT, Nat.reduceEqDiff, Nat.reduceAdd, Nat.reduceBEq, S4]; exact seee2310) ?_; simp (maxSteps := 400000) (dsimp := false) only [axs, axw, aresL, afill, Value.oneCell', Nat.reduceLT, Nat.reduceLeDiff, Nat.reduceEqDiff, Nat.reduceAdd, Nat.reduceMul, Nat.reduceSub, Nat.reduceBEq, Int.reduceLE, Int.reduceLT, Int.reduceToNat, Int.reduceNeg, Int.reduceEq, axt, ftK, ft3, AAll, ftQ, S4, tys]
  refine ACallK.strict rfl (rWithout O k (by omega)) (by simp only [SeesL, axs, axt, AS.ev, AS.put, upd, inHeap, Nat.reduceLT, Nat.reduceEqDiff, Nat.reduceAdd, Nat.reduceBEq, S4]; exact seee2310) ?_; simp (maxSteps := 400000) (dsimp := false) only [axs, axw, aresL, afill, Value.oneCell', Nat.reduceLT, Nat.reduceLeDiff, Nat.reduceEqDiff, Nat.reduceAdd, Nat.reduceMul, Nat.reduceSub, Nat.reduceBEq, Int.reduceLE, Int.reduceLT, Int.reduceToNat, Int.reduceNeg, Int.reduceEq, axt, ftK, ft3, AAll, ftQ, S4, tys]
  refine ACallK.strict rfl (rWithout M k (by omega)) (by simp only [SeesL, axs, axt, AS.ev, AS.put, upd, inHeap, Nat.reduceLT, Nat.reduceEqDiff, Nat.reduceAdd, Nat.reduceBEq, S4]; exact seee2310) ?_; simp (maxSteps := 400000) (dsimp := false) only [axs, axw, aresL, afill, Value.oneCell', Nat.reduceLT, Nat.reduceLeDiff, Nat.reduceEqDiff, Nat.reduceAdd, Nat.reduceMul, Nat.reduceSub, Nat.reduceBEq, Int.reduceLE, Int.reduceLT, Int.reduceToNat, Int.reduceNeg, Int.reduceEq, axt, ftK, ft3, AAll, ftQ, S4, tys]
  refine ⟨_, rfl, ?_⟩; simp (maxSteps := 400000) (dsimp := false) only [SeesL, axs, axw, aresL, afill, Value.oneCell', Nat.reduceLT, Nat.reduceLeDiff, Nat.reduceEqDiff, Nat.reduceAdd, Nat.reduceMul, Nat.reduceSub, Nat.reduceBEq, Int.reduceLE, Int.reduceLT, Int.reduceToNat, Int.reduceNeg, Int.reduceEq, axt, ftK, ft3, AAll, ftQ, S4, tys] <;> exact seee2311
def tqResize (s : TQ) (c : Int) : TQ × List Int :=
  (⟨(tqShrink (capOf c) (capOf c) (s.I.length + s.M.length) s []).1.I, cutTo (tqShrink (capOf c) (capOf c) (s.I.length + s.M.length) s []).1.O ((capOf c).tdiv 2), (tqShrink (capOf c) (capOf c) (s.I.length + s.M.length) s []).1.M⟩, (tqShrink (capOf c) (capOf c) (s.I.length + s.M.length) s []).2)
theorem rTResize (C : Int) (I O M : List Int) (c : Int) (h1 : I.length + M.length ≤ 400000) (h2 : O.length ≤ 600000) : PCalls Try.prog 66 [S4 C I O M, .sc (.int .i64 c)] (.tup [S4 (capOf c) (tqResize ⟨I, O, M⟩ c).1.I (tqResize ⟨I, O, M⟩ c).1.O (tqResize ⟨I, O, M⟩ c).1.M, .lst 1 (U (tqResize ⟨I, O, M⟩ c).2)]) := by
  unfold tqResize
  obtain ⟨c0, c1⟩ := capOf_le c
  obtain ⟨l1, l2, _⟩ := tqShrink_len (z := capOf c) c0 c1 (by omega) (I.length + M.length) ⟨I, O, M⟩ [] rfl h2
  have hcall := rTshrink (capOf c) I O M (capOf c) c0 c1 h1 (by omega) (by omega) _ rfl
  generalize tqShrink (capOf c) (capOf c) (I.length + M.length) ⟨I, O, M⟩ [] = R at *
  refine PCalls.intro2 Try.func66 rfl rfl Try.ntmps66 Try.results66 (by simp) fun n => ?_; simp (maxSteps := 400000) (dsimp := false) only [axs, axw, aresL, afill, Value.oneCell', Nat.reduceLT, Nat.reduceLeDiff, Nat.reduceEqDiff, Nat.reduceAdd, Nat.reduceMul, Nat.reduceSub, Nat.reduceBEq, Int.reduceLE, Int.reduceLT, Int.reduceToNat, Int.reduceNeg, Int.reduceEq, axt, ftK, ft3, AAll, ftQ, S4, tys]
  refine ACallK.strict rfl (rCap c) (by simp only [SeesL, axs, axt, AS.ev, AS.put, upd, inHeap, Nat.reduceLT, Nat.reduceEqDiff, Nat.reduceAdd, Nat.reduceBEq, S4]; exact seee2310) ?_; simp (maxSteps := 400000) (dsimp := false) only [axs, axw, aresL, afill, Value.oneCell', Nat.reduceLT, Nat.reduceLeDiff, Nat.reduceEqDiff, Nat.reduceAdd, Nat.reduceMul, Nat.reduceSub, Nat.reduceBEq, Int.reduceLE, Int.reduceLT, Int.reduceToNat, Int.reduceNeg, Int.reduceEq, axt, ftK, ft3, AAll, ftQ, S4, tys]
  refine ACallK.strict rfl (hcall) (by simp only [SeesL, axs, axt, AS.ev, AS.put, upd, inHeap, Nat.reduceLT, Nat.reduceEqDiff, Nat.reduceAdd, Nat.reduceBEq, S4]; exact seee2310) ?_; simp (maxSteps := 400000) (dsimp := false) only [axs, axw, aresL, afill, Value.oneCell', Nat.reduceLT, Nat.reduceLeDiff, Nat.reduceEqDiff, Nat.reduceAdd, Nat.reduceMul, Nat.reduceSub, Nat.reduceBEq, Int.reduceLE, Int.reduceLT, Int.reduceToNat, Int.reduceNeg, Int.reduceEq, axt, ftK, ft3, AAll, ftQ, S4, tys]
  refine ACallK.strict rfl (rTfall (capOf c) R.1.I R.1.O R.1.M c0 c1 (by omega)) (by simp only [SeesL, axs, axt, AS.ev, AS.put, upd, inHeap, Nat.reduceLT, Nat.reduceEqDiff, Nat.reduceAdd, Nat.reduceBEq, S4]; exact seee2310) ?_; simp (maxSteps := 400000) (dsimp := false) only [axs, axw, aresL, afill, Value.oneCell', Nat.reduceLT, Nat.reduceLeDiff, Nat.reduceEqDiff, Nat.reduceAdd, Nat.reduceMul, Nat.reduceSub, Nat.reduceBEq, Int.reduceLE, Int.reduceLT, Int.reduceToNat, Int.reduceNeg, Int.reduceEq, axt, ftK, ft3, AAll, ftQ, S4, tys]
  refine ⟨_, rfl, ?_⟩; simp (maxSteps := 400000) (dsimp := false) only [SeesL, axs, axw, aresL, afill, Value.oneCell', Nat.reduceLT, Nat.reduceLeDiff, Nat.reduceEqDiff, Nat.reduceAdd, Nat.reduceMul, Nat.reduceSub, Nat.reduceBEq, Int.reduceLE, Int.reduceLT, Int.reduceToNat, Int.reduceNeg, Int.reduceEq, axt, ftK, ft3, AAll, ftQ, S4, tys] <;> exact seee2311
/-- An act's capacity, rows, and those that were evicted. -/
def tqDo (C : Int) (s : TQ) (a : Deed) : Int × TQ × List Int :=
  if kindOf a (decide (a.key ∈ s.I ++ s.M)) = 1 then (C, tqTouch s a.key, [])
  else if kindOf a (decide (a.key ∈ s.I ++ s.M)) = 2 then (C, (tqAdmit C s a.key).1, (tqAdmit C s a.key).2)
  else if kindOf a (decide (a.key ∈ s.I ++ s.M)) = 3 then (C, ⟨without s.I a.key, without s.O a.key, without s.M a.key⟩, [])
  else (capOf (sizeOf' a), (tqResize s (sizeOf' a)).1, (tqResize s (sizeOf' a)).2)
end Go.Al
end
