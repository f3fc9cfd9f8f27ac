/- What the reference's lists come to, and the program's. Conditions: the rows are short of a billion elements. -/
import Derived.Test.YtbdcmgcphhbpiaaSq8
set_option linter.unusedVariables false
set_option linter.unusedSimpArgs false
namespace Go.Al
open Go.Proofs
theorem rFront (l : List Int) (v : Int) (hl : l.length ≤ 1000000000) : PCalls Try.prog 39 [.lst 1 (U l), .sc (.int .u64 v)] (.lst 1 (U (v :: without l v))) := by
  refine PCalls.intro2 Try.func39 rfl rfl Try.ntmps39 Try.results39 (by simp) fun n => ?_; simp (maxSteps := 400000) (dsimp := false) only [axs, AThen, ABlock, dstsOk, AStep, callsF, AWant, aop, AS.ev, AS.put, upd, AS.bound, abin, aint, aload, astore, cellsAt, AV.cells, alen, elems, AV.int?, FPost, aresL, ares1, pack, afill, splice, Value.oneCell', Nat.reduceLT, Nat.reduceLeDiff, Nat.reduceEqDiff, Nat.reduceAdd, Nat.reduceMul, Nat.reduceSub, Nat.reduceBEq, Int.reduceLE, Int.reduceLT, Int.reduceToNat, Int.reduceNeg, Int.reduceEq, axt, ftK, pickP, AScope, AAll, pickQ, ftQ, inHeap, tys]
  have b0 := without_len l v
  have b1 : (1 + (without l v).length) * 8 ≤ 140737488355328 := by omega
  have b2 : 1 + (without l v).length ≤ 1099511627776 := by omega
  refine ACallK.strict rfl (rWithout l v hl) (by simp only [SeesL, U_len, b1, b2, axs, axt, AS.ev, AS.put, upd, inHeap, Nat.reduceLT, Nat.reduceEqDiff, Nat.reduceAdd, Nat.reduceBEq]; repeat' (first | exact True.intro | exact Sees.sc | exact Sees.none | ((with_reducible refine Sees.same ?_) <;> simp [noIds, noIdsL, noIdsE, noIdsE_U, noIdsE_UU] <;> fail) | (refine Live.sees ?_ ?_ <;> first | assumption | (simp [noIdsE_U, noIdsE_UU] <;> fail)) | (refine Sees.obj ?_ ?_ ?_ <;> first | exact ⟨_, _, by assumption, rfl⟩ | (simp [U_len, UU_len] <;> fail) | (simp [noIdsE_U, noIdsE_UU] <;> fail) | (simp [U, UU, upd] <;> fail) | (simp [U, UU, upd, neS, *] <;> fail)) | (refine Sees.of_seen 3 ?_ <;> simp [seen, upd, noIdsE, noIdsL, noIds, U, UU, Nat.add_assoc] <;> fail) | refine Sees.agg ?_ | refine And.intro ?_ ?_ | simp only [SeesL])) ?_; simp (maxSteps := 400000) (dsimp := false) only [U_len, b1, b2, axs, AThen, ABlock, dstsOk, AStep, callsF, AWant, aop, AS.ev, AS.put, upd, AS.bound, abin, aint, aload, astore, cellsAt, AV.cells, alen, elems, AV.int?, FPost, aresL, ares1, pack, afill, splice, Value.oneCell', Nat.reduceLT, Nat.reduceLeDiff, Nat.reduceEqDiff, Nat.reduceAdd, Nat.reduceMul, Nat.reduceSub, Nat.reduceBEq, Int.reduceLE, Int.reduceLT, Int.reduceToNat, Int.reduceNeg, Int.reduceEq, axt, ftK, pickP, AScope, AAll, pickQ, ftQ, inHeap, tys]
  exact ⟨_, rfl, Sees.whole (if_pos rfl) rfl (by simp [U_len]; omega) (noIdsE_U (v :: without l v))⟩
theorem lastIdx {α : Type} {l : List α} (h : l ≠ []) (hl : l.length ≤ 1099511627776) : ∃ x, l[l.length - 1]? = some x ∧ l = l.take (l.length - 1) ++ [x] ∧ IntKind.i64.wrap ((l.length : Int) - 1) = ((l.length - 1 : Nat) : Int) ∧ (0 : Int) ≤ ((l.length - 1 : Nat) : Int) ∧ ((l.length - 1 : Nat) : Int) < l.length ∧ ((l.length - 1 : Nat) : Int) ≤ l.length := by
  have h0 : 0 < l.length := List.length_pos_iff.2 h
  obtain ⟨x, hx, _, _, _, hT, _⟩ := idx (l := l) (p := l.length - 1) (by omega) hl
  refine ⟨x, hx, ?_, ?_, by omega, by omega, by omega⟩
  · rw [Nat.sub_add_cancel h0, List.take_length] at hT; exact hT
  · rw [wrap_in (by omega) (by omega)]; omega
theorem rBack (l : List Int) (x : Int) (hl : l.length ≤ 1000000000) (hx : l[l.length - 1]? = some x) : PCalls Try.prog 55 [.lst 1 (U l)] (.sc (.int .u64 x)) := by
  have h0 : l ≠ [] := by rintro rfl; simp at hx
  obtain ⟨y, hy, hs, hw, g0, g1, g2⟩ := lastIdx h0 (by omega)
  have hg := U_get hx
  refine PCalls.intro2 Try.func55 rfl rfl Try.ntmps55 Try.results55 (by simp) fun n => ?_; simp (maxSteps := 400000) (dsimp := false) only [U_len, hw, g0, hg, axs, AThen, ABlock, dstsOk, AStep, callsF, AWant, aop, AS.ev, AS.put, upd, AS.bound, abin, aint, aload, astore, cellsAt, AV.cells, alen, elems, AV.int?, FPost, aresL, ares1, pack, afill, splice, Value.oneCell', Nat.reduceLT, Nat.reduceLeDiff, Nat.reduceEqDiff, Nat.reduceAdd, Nat.reduceMul, Nat.reduceSub, Nat.reduceBEq, Int.reduceLE, Int.reduceLT, Int.reduceToNat, Int.reduceNeg, Int.reduceEq, axt, ftK, pickP, AScope, AAll, pickQ, ftQ, inHeap, tys]
  exact ⟨_, rfl, Sees.sc⟩
/-- The first so many keys are left; the others fall, the last one first. -/
def cutTo (l : List Int) (n : Int) : List Int := l.take (max n 0).toNat
def fallen (l : List Int) (n : Int) : List Int := (l.drop (max n 0).toNat).reverse
end Go.Al
