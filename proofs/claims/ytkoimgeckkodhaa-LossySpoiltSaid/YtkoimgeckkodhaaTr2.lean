/- A small queue, a main one and ghosts: which key the reference evicts. Conditions: the rows are short. -/
import Derived.Test.YtkoimgeckkodhaaTr1
set_option linter.unusedVariables false
set_option linter.unusedSimpArgs false
set_option maxRecDepth 20000
set_option maxHeartbeats 3200000
-- axs, axw, aresL, afill, Value.oneCell', Nat.reduceLT, Nat.reduceLeDiff, Nat.reduceEqDiff, Nat.reduceAdd, Nat.reduceMul, Nat.reduceSub, Nat.reduceBEq, Int.reduceLE, Int.reduceLT, Int.reduceToNat, Int.reduceNeg, Int.reduceEq, axt, ftK, ft3, AAll, ftQ, T3, tys: T3
-- NOIDS: noIdsE_I3
-- LENS: I3_len
namespace Go.Al
open Go.Proofs
theorem fromM_stop {A : List (Int × Int)} {x : Int × Int} (h : x.2 ≤ 0) (f : Nat) : fromM f (A ++ [x]) = (A, x.1) := by
  cases f with
  | zero => unfold fromM; rw [initP_snoc, lastP_snoc]
  | succ f => unfold fromM; rw [initP_snoc, lastP_snoc, if_pos h]
theorem fromM_go {A : List (Int × Int)} {x : Int × Int} (h : ¬ x.2 ≤ 0) (f : Nat) : fromM (f + 1) (A ++ [x]) = fromM f ((x.1, x.2 - 1) :: A) := by
  rw [fromM, initP_snoc, lastP_snoc, if_neg h]
theorem sumF_go {A : List (Int × Int)} {x : Int × Int} (h : ¬ x.2 ≤ 0) : sumF ((x.1, x.2 - 1) :: A) + 1 = sumF (A ++ [x]) := by
  rw [sumF_append]
  simp only [sumF]
  omega
theorem seedeb90 {p : Prop} (h : p := by repeat' (first | exact True.intro | exact Sees.sc | exact Sees.none | ((with_reducible refine Sees.same ?_) <;> simp [noIds, noIdsL, noIdsE, noIdsE_U, noIdsE_UU, noIdsE_I3] <;> fail) | (refine Live.sees ?_ ?_ <;> first | assumption | (simp [noIdsE_U, noIdsE_UU, noIdsE_I3] <;> fail)) | (refine Sees.obj ?_ ?_ ?_ <;> first | exact ⟨_, _, by assumption, rfl⟩ | (simp [U_len, UU_len, I3_len] <;> fail) | (simp [noIdsE_U, noIdsE_UU, noIdsE_I3] <;> fail) | (simp [U, UU, upd, neS] <;> fail) | (simp [U, UU, upd, neS, *] <;> fail)) | refine Sees.agg ?_ | refine Sees.tup ?_ | refine And.intro ?_ ?_ | simp only [SeesL])) : p := h
theorem seedeb91 {p : Prop} (h : p := by repeat' (first | exact True.intro | exact Sees.sc | exact Sees.none | ((with_reducible refine Sees.same ?_) <;> simp [noIds, noIdsL, noIdsE, noIdsE_U, noIdsE_UU, noIdsE_I3] <;> fail) | (refine Live.sees ?_ ?_ <;> first | assumption | (simp [noIdsE_U, noIdsE_UU, noIdsE_I3] <;> fail)) | (refine Sees.obj ?_ ?_ ?_ <;> first | exact ⟨_, _, by assumption, rfl⟩ | (simp [U_len, UU_len, I3_len] <;> fail) | (simp [noIdsE_U, noIdsE_UU, noIdsE_I3] <;> fail) | (simp [U, UU, upd] <;> fail) | (simp [U, UU, upd, neS, *] <;> fail)) | (refine Sees.of_seen 3 ?_ <;> simp [seen, upd, noIdsE, noIdsL, noIds, U, UU, Nat.add_assoc] <;> fail) | refine Sees.agg ?_ | refine And.intro ?_ ?_ | simp only [SeesL])) : p := h
theorem r3fromMain : ∀ (f : Nat) (C : Int) (S M : List (Int × Int)) (G : List Int), sumF M ≤ f → M ≠ [] → M.length ≤ 1000 → (∀ x ∈ M, x.2 ≤ 3) → PCalls Try.prog 107 [T3 ⟨C, S, M, G⟩] (.tup [T3 ⟨C, S, (fromM f M).1, G⟩, .sc (.int .u64 (fromM f M).2)]) := by
  intro f
  induction f with
  | zero =>
    intro C S M G hs hn hl hf
    have e := snocP hn
    generalize initP M = A at e
    generalize lastP M = x at e
    subst e
    rw [List.length_append, List.length_singleton] at hl
    have hx : x.2 ≤ 0 := by
      rw [sumF_append] at hs
      simp only [sumF] at hs
      omega
    rw [fromM_stop hx]
    have hL : (I3 (A ++ [x])).length = A.length + 1 := by rw [I3_len]; simp
    have w1 : IntKind.i64.wrap (((A.length + 1 : Nat) : Int) - 1) = (A.length : Int) := by rw [IntWalk.i64_in _ ⟨by omega, by omega⟩]; omega
    have g1 : (0 : Int) ≤ (A.length : Int) := by omega
    have g2 : (A.length : Int) < ((A.length + 1 : Nat) : Int) := by omega
    have g3 : (A.length : Int) ≤ ((A.length + 1 : Nat) : Int) := by omega
    have hg : (I3 (A ++ [x]))[A.length]? = some [.sc (.int .u64 x.1), .sc (.int .i64 x.2)] := I3_get (by simp)
    have hT : List.take A.length (I3 (A ++ [x])) = I3 A := by rw [I3_take, List.take_left]
    have b1 : A.length * 16 ≤ 140737488355328 := by omega
    have b2 : A.length ≤ 1099511627776 := by omega
    unfold T3
    simp only
    generalize hI : I3 (A ++ [x]) = I at *
    refine PCalls.intro2 Try.func107 rfl rfl Try.ntmps107 Try.results107 (by simp) fun n => ?_; simp (maxSteps := 400000) (dsimp := false) only [hL, w1, g1, g2, g3, hg, hT, hx, I3_len, b1, b2, axs, axw, aresL, afill, Value.oneCell', Nat.reduceLT, Nat.reduceLeDiff, Nat.reduceEqDiff, Nat.reduceAdd, Nat.reduceMul, Nat.reduceSub, Nat.reduceBEq, Int.reduceLE, Int.reduceLT, Int.reduceToNat, Int.reduceNeg, Int.reduceEq, axt, ftK, ft3, AAll, ftQ, T3, tys]
    refine ADraw.fork [(0, true), (1, true)] 2 [[(2, true), (3, true), (4, true)], [(3, true), (2, true), (4, true)]] mixed (by kernel_rfl) ?_
    simp (maxSteps := 400000) (dsimp := false) only [axs, axw, aresL, afill, Value.oneCell', Nat.reduceLT, Nat.reduceLeDiff, Nat.reduceEqDiff, Nat.reduceAdd, Nat.reduceMul, Nat.reduceSub, Nat.reduceBEq, Int.reduceLE, Int.reduceLT, Int.reduceToNat, Int.reduceNeg, Int.reduceEq, axt, ftK, ft3, AAll, ftQ, T3, tys]
    refine ⟨?_, ?_⟩
    · refine ⟨_, rfl, ?_⟩; simp (maxSteps := 400000) (dsimp := false) only [SeesL, axs, axw, aresL, afill, Value.oneCell', Nat.reduceLT, Nat.reduceLeDiff, Nat.reduceEqDiff, Nat.reduceAdd, Nat.reduceMul, Nat.reduceSub, Nat.reduceBEq, Int.reduceLE, Int.reduceLT, Int.reduceToNat, Int.reduceNeg, Int.reduceEq, axt, ftK, ft3, AAll, ftQ, T3, tys] <;> exact seedeb90
    · refine ⟨_, rfl, ?_⟩; simp (maxSteps := 400000) (dsimp := false) only [SeesL, axs, axw, aresL, afill, Value.oneCell', Nat.reduceLT, Nat.reduceLeDiff, Nat.reduceEqDiff, Nat.reduceAdd, Nat.reduceMul, Nat.reduceSub, Nat.reduceBEq, Int.reduceLE, Int.reduceLT, Int.reduceToNat, Int.reduceNeg, Int.reduceEq, axt, ftK, ft3, AAll, ftQ, T3, tys] <;> exact seedeb90
  | succ f ih =>
    intro C S M G hs hn hl hf
    have e := snocP hn
    generalize initP M = A at e
    generalize lastP M = x at e
    subst e
    rw [List.length_append, List.length_singleton] at hl
    have hL : (I3 (A ++ [x])).length = A.length + 1 := by rw [I3_len]; simp
    have w1 : IntKind.i64.wrap (((A.length + 1 : Nat) : Int) - 1) = (A.length : Int) := by rw [IntWalk.i64_in _ ⟨by omega, by omega⟩]; omega
    have g1 : (0 : Int) ≤ (A.length : Int) := by omega
    have g2 : (A.length : Int) < ((A.length + 1 : Nat) : Int) := by omega
    have g3 : (A.length : Int) ≤ ((A.length + 1 : Nat) : Int) := by omega
    have hg : (I3 (A ++ [x]))[A.length]? = some [.sc (.int .u64 x.1), .sc (.int .i64 x.2)] := I3_get (by simp)
    have hT : List.take A.length (I3 (A ++ [x])) = I3 A := by rw [I3_take, List.take_left]
    have b1 : A.length * 16 ≤ 140737488355328 := by omega
    have b2 : A.length ≤ 1099511627776 := by omega
    by_cases hx : x.2 ≤ 0
    · rw [fromM_stop hx]
      unfold T3
      simp only
      generalize hI : I3 (A ++ [x]) = I at *
      refine PCalls.intro2 Try.func107 rfl rfl Try.ntmps107 Try.results107 (by simp) fun n => ?_; simp (maxSteps := 400000) (dsimp := false) only [hL, w1, g1, g2, g3, hg, hT, hx, I3_len, b1, b2, axs, axw, aresL, afill, Value.oneCell', Nat.reduceLT, Nat.reduceLeDiff, Nat.reduceEqDiff, Nat.reduceAdd, Nat.reduceMul, Nat.reduceSub, Nat.reduceBEq, Int.reduceLE, Int.reduceLT, Int.reduceToNat, Int.reduceNeg, Int.reduceEq, axt, ftK, ft3, AAll, ftQ, T3, tys]
      refine ADraw.fork [(0, true), (1, true)] 2 [[(2, true), (3, true), (4, true)], [(3, true), (2, true), (4, true)]] mixed (by kernel_rfl) ?_
      simp (maxSteps := 400000) (dsimp := false) only [axs, axw, aresL, afill, Value.oneCell', Nat.reduceLT, Nat.reduceLeDiff, Nat.reduceEqDiff, Nat.reduceAdd, Nat.reduceMul, Nat.reduceSub, Nat.reduceBEq, Int.reduceLE, Int.reduceLT, Int.reduceToNat, Int.reduceNeg, Int.reduceEq, axt, ftK, ft3, AAll, ftQ, T3, tys]
      refine ⟨?_, ?_⟩
      · refine ⟨_, rfl, ?_⟩; simp (maxSteps := 400000) (dsimp := false) only [SeesL, axs, axw, aresL, afill, Value.oneCell', Nat.reduceLT, Nat.reduceLeDiff, Nat.reduceEqDiff, Nat.reduceAdd, Nat.reduceMul, Nat.reduceSub, Nat.reduceBEq, Int.reduceLE, Int.reduceLT, Int.reduceToNat, Int.reduceNeg, Int.reduceEq, axt, ftK, ft3, AAll, ftQ, T3, tys] <;> exact seedeb90
      · refine ⟨_, rfl, ?_⟩; simp (maxSteps := 400000) (dsimp := false) only [SeesL, axs, axw, aresL, afill, Value.oneCell', Nat.reduceLT, Nat.reduceLeDiff, Nat.reduceEqDiff, Nat.reduceAdd, Nat.reduceMul, Nat.reduceSub, Nat.reduceBEq, Int.reduceLE, Int.reduceLT, Int.reduceToNat, Int.reduceNeg, Int.reduceEq, axt, ftK, ft3, AAll, ftQ, T3, tys] <;> exact seedeb90
    · rw [fromM_go hx]
      have h3 := hf x (List.mem_append_right _ List.mem_cons_self)
      have hsg := sumF_go (A := A) hx
      have hc := ih C S ((x.1, x.2 - 1) :: A) G (by omega) (by simp) (by rw [List.length_cons]; omega) (fun y hy => by
        rcases List.mem_cons.1 hy with rfl | hy
        · show x.2 - 1 ≤ 3; omega
        · exact hf y (List.mem_append_left _ hy))
      have w2 : IntKind.i64.wrap (x.2 - 1) = x.2 - 1 := IntWalk.i64_in _ ⟨by omega, by omega⟩
      have hcm : 1 + A.length = A.length + 1 := Nat.add_comm _ _
      have b3 : (A.length + 1) * 16 ≤ 140737488355328 := by omega
      have b4 : A.length + 1 ≤ 1099511627776 := by omega
      generalize fromM f ((x.1, x.2 - 1) :: A) = R at *
      have hTA : List.take A.length (I3 A) = I3 A := List.take_of_length_le (by rw [I3_len]; exact Nat.le_refl _)
      have hcons : I3 ((x.1, x.2 - 1) :: A) = [.sc (.int .u64 x.1), .sc (.int .i64 (x.2 - 1))] :: I3 A := rfl
      unfold T3 at hc
      simp only at hc
      unfold T3
      simp only
      generalize hI : I3 (A ++ [x]) = I at *
      refine PCalls.intro2 Try.func107 rfl rfl Try.ntmps107 Try.results107 (by simp) fun n => ?_; simp (maxSteps := 400000) (dsimp := false) only [hL, w1, g1, g2, g3, hg, hT, hx, I3_len, b1, b2, b3, b4, w2, hcm, Nat.zero_add, Nat.le_refl, List.drop_zero, hTA, axs, axw, aresL, afill, Value.oneCell', Nat.reduceLT, Nat.reduceLeDiff, Nat.reduceEqDiff, Nat.reduceAdd, Nat.reduceMul, Nat.reduceSub, Nat.reduceBEq, Int.reduceLE, Int.reduceLT, Int.reduceToNat, Int.reduceNeg, Int.reduceEq, axt, ftK, ft3, AAll, ftQ, T3, tys]
      refine ACallK.shutO (id := n + 1 + 1 + 1 + 1 + 1 + 1) ((upd_ne _ _ (by omega)).trans (upd_same _ _ _)) ?_
      rw [← hcons]
      refine ACallK.strict rfl (hc) (by simp only [SeesL, axs, axt, AS.ev, AS.put, upd, inHeap, Nat.reduceLT, Nat.reduceEqDiff, Nat.reduceAdd, Nat.reduceBEq, T3]; exact seedeb91) ?_; simp (maxSteps := 400000) (dsimp := false) only [axs, axw, aresL, afill, Value.oneCell', Nat.reduceLT, Nat.reduceLeDiff, Nat.reduceEqDiff, Nat.reduceAdd, Nat.reduceMul, Nat.reduceSub, Nat.reduceBEq, Int.reduceLE, Int.reduceLT, Int.reduceToNat, Int.reduceNeg, Int.reduceEq, axt, ftK, ft3, AAll, ftQ, T3, tys]
      refine ⟨_, rfl, ?_⟩; simp (maxSteps := 400000) (dsimp := false) only [SeesL, axs, axw, aresL, afill, Value.oneCell', Nat.reduceLT, Nat.reduceLeDiff, Nat.reduceEqDiff, Nat.reduceAdd, Nat.reduceMul, Nat.reduceSub, Nat.reduceBEq, Int.reduceLE, Int.reduceLT, Int.reduceToNat, Int.reduceNeg, Int.reduceEq, axt, ftK, ft3, AAll, ftQ, T3, tys] <;> exact seedeb90
end Go.Al
