/- seq.Without with its row told exactly; slices.Insert at the front of nothing. Conditions: the row has a million elements at most. -/
import Derived.Test.YtbdcmgcphhbpiaaSq4
set_option linter.unusedVariables false
set_option linter.unusedSimpArgs false
namespace Go.Al
open Go.Proofs
def WithoutX (l : List Int) (v : Int) (n : Nat) (r : AV) (H' : AH) (n' : Nat) : Prop :=
  (without l v = [] ∧ r = .sc (.slice none 0 0)) ∨ ∃ id, n ≤ id ∧ id < n' ∧ r = .sl id 1 0 (without l v).length ∧ H' id = some (.obj 34 1 (U (without l v)) false)
theorem cWithoutX (l : List Int) (v : Int) (hl : l.length ≤ 1000000) (H : AH) (n : Nat) :
    HCalls Try.prog 36 [.lst 1 (U l), .sc (.int .u64 v)] H n (WithoutX l v n) := by
  refine (cWithoutH l v hl H n).shrink ?_
  rintro r H' n' (⟨h1, h2⟩ | ⟨id, es, h1, h2, h3, h4⟩)
  · exact .inl (.inl ⟨h1, h2⟩)
  · refine .inr ⟨id, _, _, _, (U (without l v)).length, h4, .inr ⟨id, h1, h2, h3, ?_⟩⟩
    rw [upd_same, List.take_left]
theorem cInsertNil (v : Int) (H : AH) (n iv : Nat) (hv : H iv = some (.obj 34 1 [[.sc (.int .u64 v)]] false)) :
    HCalls Try.prog 51 [.sc (.slice none 0 0), .sc (.int .i64 0), .sl iv 1 0 1] H n
      fun r H' n' => ∃ id, r = .sl id 1 0 1 ∧ H' id = some (.obj 34 1 (U [v]) false) := by
  refine HCalls.walk Try.func51 rfl rfl Try.ntmps51 Try.results51 (by simp) ?_; simp (maxSteps := 400000) (dsimp := false) only [hv, axs, AThen, ABlock, dstsOk, AStep, callsF, AWant, aop, AS.ev, AS.put, upd, AS.bound, abin, aint, aload, astore, cellsAt, AV.cells, alen, elems, AV.int?, FPost, aresL, ares1, pack, afill, splice, Value.oneCell', Nat.reduceLT, Nat.reduceLeDiff, Nat.reduceEqDiff, Nat.reduceAdd, Nat.reduceMul, Nat.reduceSub, Nat.reduceBEq, Int.reduceLE, Int.reduceLT, Int.reduceToNat, Int.reduceNeg, Int.reduceEq, axt, ftK, pickP, AScope, AAll, pickQ, ftQ, inHeap, tys]
  exact ⟨_, rfl, _, rfl, upd_same _ _ _⟩
theorem cInsertEmpty (v : Int) (H : AH) (n iv id : Nat) (hne : id ≠ iv) (hid : H id = some (.obj 34 1 [] false)) (hv : H iv = some (.obj 34 1 [[.sc (.int .u64 v)]] false)) :
    HCalls Try.prog 51 [.sl id 1 0 0, .sc (.int .i64 0), .sl iv 1 0 1] H n
      fun r H' n' => ∃ id, r = .sl id 1 0 1 ∧ H' id = some (.obj 34 1 (U [v]) false) := by
  refine HCalls.walk Try.func51 rfl rfl Try.ntmps51 Try.results51 (by simp) ?_; simp (maxSteps := 400000) (dsimp := false) only [hv, hid, axs, AThen, ABlock, dstsOk, AStep, callsF, AWant, aop, AS.ev, AS.put, upd, AS.bound, abin, aint, aload, astore, cellsAt, AV.cells, alen, elems, AV.int?, FPost, aresL, ares1, pack, afill, splice, Value.oneCell', Nat.reduceLT, Nat.reduceLeDiff, Nat.reduceEqDiff, Nat.reduceAdd, Nat.reduceMul, Nat.reduceSub, Nat.reduceBEq, Int.reduceLE, Int.reduceLT, Int.reduceToNat, Int.reduceNeg, Int.reduceEq, axt, ftK, pickP, AScope, AAll, pickQ, ftQ, inHeap, tys]
  exact ⟨_, rfl, _, rfl, if_pos rfl⟩
end Go.Al
