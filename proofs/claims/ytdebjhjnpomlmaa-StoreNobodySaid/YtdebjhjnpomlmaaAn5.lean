/- Slots that are taken and freed, by the program: how one is taken, and a new arena. Conditions: the rows are short. -/
import Derived.Test.YtdebjhjnpomlmaaAn4
set_option linter.unusedVariables false
set_option linter.unusedSimpArgs false
set_option maxRecDepth 20000
set_option maxHeartbeats 1600000
namespace Go.Al
open Go.Proofs
def arRow (s : Nat) (fv : AV) (m : Nat) (next live : Int) : List AV := [.sl s 7 0 m, fv, .sc (.int .i64 next), .sc (.int .i64 live)]
theorem cArGrow {H : AH} {n a s : Nat} {fv : AV} {A : AR} (h : ArH H n a s fv A) (hl : A.slots.length ≤ 2000000) :
    HCalls Try.prog 91 [.ptr a 4 0 0] H n fun r H' n' => r = .tup [] ∧ H' = upd (upd H n (some (.obj 115 7 (SL (A.slots ++ List.replicate A.slots.length slt0)) false))) a (some (.obj 100 4 [[.sl n 7 0 (2 * A.slots.length), fv, .sc (.int .i64 A.next), .sc (.int .i64 A.live)]] false)) ∧ n' = n + 1 := by
  have ha := h.ha
  have hs := h.hs
  have la := h.la
  have ls := h.ls
  have hneq : ¬ a = n ∧ ¬ n = a ∧ ¬ s = n ∧ ¬ n = s := by and_intros <;> omega
  have w1 : IntKind.i64.wrap (2 * (A.slots.length : Int)) = ((2 * A.slots.length : Nat) : Int) := by rw [wrap_in (by omega) (by omega)]; omega
  have b1 : (0 : Int) ≤ ((2 * A.slots.length : Nat) : Int) := by omega
  have b2 : ((2 * A.slots.length : Nat) : Int) * 48 ≤ 140737488355328 := by omega
  have b3 : ((2 * A.slots.length : Nat) : Int) ≤ 1099511627776 := by omega
  have hrep := SL_rep (2 * A.slots.length)
  refine HCalls.walk Try.func91 rfl rfl Try.ntmps91 Try.results91 (by simp) ?_; simp (maxSteps := 400000) (dsimp := false) only [ha, w1, b1, b2, b3, hneq, axs, AThen, ABlock, dstsOk, AStep, callsF, AWant, aop, AS.ev, AS.put, upd, AS.bound, abin, aint, aload, astore, cellsAt, AV.cells, alen, elems, AV.int?, FPost, aresL, ares1, pack, afill, splice, Value.oneCell', Nat.reduceLT, Nat.reduceLeDiff, Nat.reduceEqDiff, Nat.reduceAdd, Nat.reduceMul, Nat.reduceSub, Nat.reduceBEq, Int.reduceLE, Int.reduceLT, Int.reduceToNat, Int.reduceNeg, Int.reduceEq, axt, ftK, ft3, pickP, AScope, AAll, pickQ, ftQ, inHeap, tys]
  refine AStepX.copy (L := A.slots.length) (ys := SL A.slots) rfl rfl rfl rfl sl98 ty115 rfl (by decide) (.inl rfl) (upd_same _ _ _) (by simp) ?_ ?_
  · show srcFirst (upd H n _) 7 _ (.sl s 7 0 A.slots.length) = _
    simp only [srcFirst, upd_ne H _ (show s ≠ n by omega), hs]
    have h2 : min A.slots.length (2 * A.slots.length) = A.slots.length := by omega
    simp [SL_len, h2]
    rw [← SL_len A.slots, List.take_length]
  simp (maxSteps := 400000) (dsimp := false) only [ha, hneq, upd_upd, axs, AThen, ABlock, dstsOk, AStep, callsF, AWant, aop, AS.ev, AS.put, upd, AS.bound, abin, aint, aload, astore, cellsAt, AV.cells, alen, elems, AV.int?, FPost, aresL, ares1, pack, afill, splice, Value.oneCell', Nat.reduceLT, Nat.reduceLeDiff, Nat.reduceEqDiff, Nat.reduceAdd, Nat.reduceMul, Nat.reduceSub, Nat.reduceBEq, Int.reduceLE, Int.reduceLT, Int.reduceToNat, Int.reduceNeg, Int.reduceEq, axt, ftK, ft3, pickP, AScope, AAll, pickQ, ftQ, inHeap, tys]
  refine ⟨_, rfl, rfl, ?_⟩
  have e : over (List.replicate (2 * A.slots.length) [.sc (.int .u64 0), .sc (.int .u64 0), .sc (.int .i64 0), .sc (.int .i64 0), .sc (.int .i32 0), .sc (.int .i32 0), .sc (.bool false)]) 0 (SL A.slots) = SL (A.slots ++ List.replicate A.slots.length slt0) := by
    rw [hrep]
    unfold over
    rw [SL_append, List.take_zero, List.nil_append, SL_drop, SL_len]
    congr 2
    rw [List.drop_replicate]
    congr 1
    omega
  rw [e]
theorem ArH.grown {H : AH} {n a s : Nat} {fv : AV} {A : AR} (h : ArH H n a s fv A) : ArH (upd (upd H n (some (.obj 115 7 (SL (A.slots ++ List.replicate A.slots.length slt0)) false))) a (some (.obj 100 4 [[.sl n 7 0 (2 * A.slots.length), fv, .sc (.int .i64 A.next), .sc (.int .i64 A.live)]] false))) (n + 1) a n fv ⟨A.slots ++ List.replicate A.slots.length slt0, A.freed, A.next, A.live⟩ := by
  obtain ⟨ha, hs, hff, la, ls, lf⟩ := h
  refine ⟨?_, by rw [upd_ne _ _ (by omega), upd_same], ?_, by omega, by omega, fun f m e => by have := lf f m e; omega⟩
  · rw [upd_same]
    simp only [List.length_append, List.length_replicate]
    rw [show A.slots.length + A.slots.length = 2 * A.slots.length by omega]
  · rcases hff with ⟨h1, h2⟩ | ⟨id, h1, h2⟩
    · exact .inl ⟨h1, h2⟩
    · refine .inr ⟨id, h1, ?_⟩
      have : id ≠ a := by rintro rfl; rw [ha] at h2; simp at h2
      have h3 := lf _ _ h1
      rw [upd_ne _ _ this, upd_ne _ _ (by omega)]
      exact h2
theorem cArNew (room : Int) (H : AH) (n : Nat) :
    HCalls Try.prog 32 [.sc (.int .i64 room)] H n fun r H' n' => r = .ptr (n + 1) 4 0 0 ∧ H' = upd (upd H n (some (.obj 115 7 (SL (arNew room).slots) false))) (n + 1) (some (.obj 100 4 [[.sl n 7 0 (arNew room).slots.length, .sc (.slice none 0 0), .sc (.int .i64 1), .sc (.int .i64 0)]] false)) ∧ n' = n + 1 + 1 := by
  have hq : 1 ≤ (if 1048576 < (if 1 > room then 1 else room) then (1048576 : Int) else (if 1 > room then 1 else room)) ∧ (if 1048576 < (if 1 > room then 1 else room) then (1048576 : Int) else (if 1 > room then 1 else room)) ≤ 1048576 := by
    by_cases h : 1 > room <;> simp [h] <;> (try split) <;> omega
  unfold arNew
  generalize hqe : (if 1048576 < (if 1 > room then 1 else room) then (1048576 : Int) else (if 1 > room then 1 else room)) = q at *
  obtain ⟨m, hm⟩ : ∃ m : Nat, 1 + q = (m : Int) := ⟨(1 + q).toNat, by omega⟩
  have w1 : IntKind.i64.wrap (1 + q) = (m : Int) := by rw [wrap_in (by omega) (by omega)]; exact hm
  have b1 : (0 : Int) ≤ (m : Int) := by omega
  have b2 : (m : Int) * 48 ≤ 140737488355328 := by omega
  have b3 : (m : Int) ≤ 1099511627776 := by omega
  have hrep := SL_rep m
  refine HCalls.walk Try.func32 rfl rfl Try.ntmps32 Try.results32 (by simp) ?_; simp (maxSteps := 400000) (dsimp := false) only [hqe, w1, b1, b2, b3, hrep, axs, AThen, ABlock, dstsOk, AStep, callsF, AWant, aop, AS.ev, AS.put, upd, AS.bound, abin, aint, aload, astore, cellsAt, AV.cells, alen, elems, AV.int?, FPost, aresL, ares1, pack, afill, splice, Value.oneCell', Nat.reduceLT, Nat.reduceLeDiff, Nat.reduceEqDiff, Nat.reduceAdd, Nat.reduceMul, Nat.reduceSub, Nat.reduceBEq, Int.reduceLE, Int.reduceLT, Int.reduceToNat, Int.reduceNeg, Int.reduceEq, axt, ftK, ft3, pickP, AScope, AAll, pickQ, ftQ, inHeap, tys]
  refine ⟨_, rfl, rfl, ?_⟩
  rw [hm]
  simp
theorem arNew_H (room : Int) (H : AH) (n : Nat) : ArH (upd (upd H n (some (.obj 115 7 (SL (arNew room).slots) false))) (n + 1) (some (.obj 100 4 [[.sl n 7 0 (arNew room).slots.length, .sc (.slice none 0 0), .sc (.int .i64 1), .sc (.int .i64 0)]] false))) (n + 1 + 1) (n + 1) n (.sc (.slice none 0 0)) (arNew room) :=
  ⟨by rw [upd_same]; rfl, by rw [upd_ne _ _ (by omega), upd_same], .inl ⟨rfl, rfl⟩, by omega, by omega, fun f m e => by cases e⟩
end Go.Al
