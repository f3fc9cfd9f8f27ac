/- Slots that are taken and freed, by the program: how one is freed, and taken. Conditions: the rows are short. -/
import Derived.Test.YtdebjhjnpomlmaaAn3
set_option linter.unusedVariables false
set_option linter.unusedSimpArgs false
set_option maxRecDepth 20000
set_option maxHeartbeats 1600000
namespace Go.Al
open Go.Proofs
/-- What becomes of an arena's objects: those that are not its stay. -/
structure ArTo (H : AH) (n a s : Nat) (fv : AV) (H' : AH) (n' : Nat) (A' : AR) : Prop where
  le : n ≤ n'
  keep : ∀ j, j < n → ¬ ArOwn a s fv j → H' j = H j
  at_ : ∃ s' fv', ArH H' n' a s' fv' A' ∧ ∀ j, ArOwn a s' fv' j → ArOwn a s fv j ∨ n ≤ j
theorem ArTo.same {H : AH} {n a s : Nat} {fv : AV} {A : AR} (h : ArH H n a s fv A) : ArTo H n a s fv H n A :=
  ⟨Nat.le_refl _, fun _ _ _ => rfl, s, fv, h, fun j hj => .inl hj⟩
theorem cArFree {H : AH} {n a s : Nat} {fv : AV} {A : AR} (h : ArH H n a s fv A) (i : Int) (hi : I32ok i) (hl : A.freed.length ≤ 1000000) (hv0 : 0 ≤ A.live) (hv1 : A.live ≤ 1000000000) :
    HCalls Try.prog 59 [.ptr a 4 0 0, .sc (.int .i32 i)] H n fun r H' n' => r = .sc (.bool (arFree A i).2) ∧ ArTo H n a s fv H' n' (arFree A i).1 := by
  have ha := h.ha
  have hs := h.hs
  have la := h.la
  have ls := h.ls
  have hne := h.ne
  have hneq : ¬ a = s ∧ ¬ s = a ∧ ¬ a = n ∧ ¬ n = a ∧ ¬ s = n ∧ ¬ n = s ∧ ¬ a = n + 1 ∧ ¬ n + 1 = a ∧ ¬ s = n + 1 ∧ ¬ n + 1 = s := by and_intros <;> omega
  have w1 : IntKind.i64.wrap (A.live - 1) = A.live - 1 := IntWalk.i64_in _ ⟨by omega, by omega⟩
  refine HCalls.walk Try.func59 rfl rfl Try.ntmps59 Try.results59 (by simp) ?_; simp (maxSteps := 400000) (dsimp := false) only [axs, AThen, ABlock, dstsOk, AStep, callsF, AWant, aop, AS.ev, AS.put, upd, AS.bound, abin, aint, aload, astore, cellsAt, AV.cells, alen, elems, AV.int?, FPost, aresL, ares1, pack, afill, splice, Value.oneCell', Nat.reduceLT, Nat.reduceLeDiff, Nat.reduceEqDiff, Nat.reduceAdd, Nat.reduceMul, Nat.reduceSub, Nat.reduceBEq, Int.reduceLE, Int.reduceLT, Int.reduceToNat, Int.reduceNeg, Int.reduceEq, axt, ftK, ft3, pickP, AScope, AAll, pickQ, ftQ, inHeap, tys]
  refine ACallK.heap _ rfl (cArIs h i hi) ?_; rintro r' H' n' ⟨rfl, eH, en⟩; obtain rfl := eH.symm; obtain rfl := en.symm; clear eH en; simp (maxSteps := 400000) (dsimp := false) only [axs, AThen, ABlock, dstsOk, AStep, callsF, AWant, aop, AS.ev, AS.put, upd, AS.bound, abin, aint, aload, astore, cellsAt, AV.cells, alen, elems, AV.int?, FPost, aresL, ares1, pack, afill, splice, Value.oneCell', Nat.reduceLT, Nat.reduceLeDiff, Nat.reduceEqDiff, Nat.reduceAdd, Nat.reduceMul, Nat.reduceSub, Nat.reduceBEq, Int.reduceLE, Int.reduceLT, Int.reduceToNat, Int.reduceNeg, Int.reduceEq, axt, ftK, ft3, pickP, AScope, AAll, pickQ, ftQ, inHeap, tys]
  by_cases hc : arIs A i = true
  · obtain ⟨h0, h1⟩ := arIs_yes hc
    obtain ⟨y, hy, hy2, hy3⟩ := arIs_get h0 h1
    have hfr : arFree A i = (⟨A.slots.set i.toNat slt0, A.freed ++ [i], A.next, A.live - 1⟩, true) := by unfold arFree; rw [if_pos hc]
    have hg := SL_get hy
    have h2 : 0 ≤ i := by omega
    have hset : (SL A.slots).set i.toNat [.sc (.int .u64 0), .sc (.int .u64 0), .sc (.int .i64 0), .sc (.int .i64 0), .sc (.int .i32 0), .sc (.int .i32 0), .sc (.bool false)] = SL (A.slots.set i.toNat slt0) := SL_set A.slots i.toNat slt0
    rw [hfr]
    have own : ∀ j, j < n → ¬ ArOwn a s fv j → ¬ j = a ∧ ¬ j = s ∧ ¬ j = n ∧ ¬ j = n + 1 := fun j hj ho => ⟨fun e => ho (.inl e), fun e => ho (.inr (.inl e)), by omega, by omega⟩
    have ends : ∀ (m j : Nat), ArOwn a s (.sl (n + 1) 1 0 m) j → ArOwn a s fv j ∨ n ≤ j := by
      intro m j hj
      rcases hj with rfl | rfl | ⟨m', e⟩
      · exact .inl (.inl rfl)
      · exact .inl (.inr (.inl rfl))
      · simp only [AV.sl.injEq] at e
        exact .inr (by omega)
    have ends2 : ∀ (m f m' : Nat), AV.sl (n + 1) 1 0 m = .sl f 1 0 m' → f < n + 1 + 1 := by
      intro m f m' e
      simp only [AV.sl.injEq] at e
      omega
    have hsn := I32_snoc A.freed i
    rcases h.hf with ⟨h7, h8⟩ | ⟨id, h7, h8⟩
    · subst h8
      simp (maxSteps := 400000) (dsimp := false) only [ha, hs, hc, h1, hg, h2, hneq, hset, w1, axs, AThen, ABlock, dstsOk, AStep, callsF, AWant, aop, AS.ev, AS.put, upd, AS.bound, abin, aint, aload, astore, cellsAt, AV.cells, alen, elems, AV.int?, FPost, aresL, ares1, pack, afill, splice, Value.oneCell', Nat.reduceLT, Nat.reduceLeDiff, Nat.reduceEqDiff, Nat.reduceAdd, Nat.reduceMul, Nat.reduceSub, Nat.reduceBEq, Int.reduceLE, Int.reduceLT, Int.reduceToNat, Int.reduceNeg, Int.reduceEq, axt, ftK, ft3, pickP, AScope, AAll, pickQ, ftQ, inHeap, tys]
      refine ⟨_, rfl, rfl, by omega, ?_, s, .sl (n + 1) 1 0 1, ⟨?_, ?_, Live.mk (by rw [hsn, h7]; simp [upd, hneq]) (by rw [hsn, h7]; rfl), by omega, by omega, ends2 1⟩, ends 1⟩
      · intro j hj ho
        have := own j hj ho
        simp [upd, this]
      · simp [upd, hneq]
      · simp [upd, hneq]
    · have hid1 : ¬ id = a := by rintro rfl; rw [ha] at h8; simp at h8
      have hid2 : ¬ id = s := by rintro rfl; rw [hs] at h8; simp at h8
      have hid3 := h.lf _ _ h7
      have hid : ¬ id = a ∧ ¬ a = id ∧ ¬ id = s ∧ ¬ s = id ∧ ¬ id = n ∧ ¬ n = id ∧ ¬ id = n + 1 ∧ ¬ n + 1 = id := by and_intros <;> omega
      have b2 : A.freed.length ≤ 1099511627775 := by omega
      have b3 : (A.freed.length + 1) * 4 ≤ 140737488355328 ↔ True := by simp; omega
      subst h7
      rw [I32_len] at own
      simp only [I32_len] at ends
      rw [I32_len] at ha
      simp (maxSteps := 400000) (dsimp := false) only [ha, hs, hc, h1, hg, h2, hneq, hset, w1, h8, hid, I32_len, b2, b3, axs, AThen, ABlock, dstsOk, AStep, callsF, AWant, aop, AS.ev, AS.put, upd, AS.bound, abin, aint, aload, astore, cellsAt, AV.cells, alen, elems, AV.int?, FPost, aresL, ares1, pack, afill, splice, Value.oneCell', Nat.reduceLT, Nat.reduceLeDiff, Nat.reduceEqDiff, Nat.reduceAdd, Nat.reduceMul, Nat.reduceSub, Nat.reduceBEq, Int.reduceLE, Int.reduceLT, Int.reduceToNat, Int.reduceNeg, Int.reduceEq, axt, ftK, ft3, pickP, AScope, AAll, pickQ, ftQ, inHeap, tys]
      refine ⟨_, rfl, rfl, by omega, ?_, s, .sl (n + 1) 1 0 (A.freed.length + 1), ⟨?_, ?_, Live.mk (by rw [hsn]; simp [upd, hneq]) (by rw [hsn]; simp [I32_len]), by omega, by omega, ends2 _⟩, ends _⟩
      · intro j hj ho
        have h9 := own j hj ho
        have h10 : ¬ j = id := fun e => ho (.inr (.inr ⟨_, by rw [e]⟩))
        simp [upd, h9, h10]
      · simp [upd, hneq]
      · simp [upd, hneq, hid]
  · have hc : arIs A i = false := by simpa using hc
    have hst : arFree A i = (A, false) := by unfold arFree; rw [if_neg (by rw [hc]; simp)]
    simp (maxSteps := 400000) (dsimp := false) only [hc, axs, AThen, ABlock, dstsOk, AStep, callsF, AWant, aop, AS.ev, AS.put, upd, AS.bound, abin, aint, aload, astore, cellsAt, AV.cells, alen, elems, AV.int?, FPost, aresL, ares1, pack, afill, splice, Value.oneCell', Nat.reduceLT, Nat.reduceLeDiff, Nat.reduceEqDiff, Nat.reduceAdd, Nat.reduceMul, Nat.reduceSub, Nat.reduceBEq, Int.reduceLE, Int.reduceLT, Int.reduceToNat, Int.reduceNeg, Int.reduceEq, axt, ftK, ft3, pickP, AScope, AAll, pickQ, ftQ, inHeap, tys]
    rw [hst]
    exact ⟨_, rfl, rfl, ArTo.same h⟩
end Go.Al
