/- Slots that are taken and freed, by the program: how one is taken. Conditions: the rows are short. -/
import Derived.Test.YtdebjhjnpomlmaaAn5
set_option linter.unusedVariables false
set_option linter.unusedSimpArgs false
set_option maxRecDepth 20000
set_option maxHeartbeats 3200000
namespace Go.Al
open Go.Proofs
theorem cArAlloc {H : AH} {n a s : Nat} {fv : AV} {A : AR} (h : ArH H n a s fv A) (ok : ArOk A) (hl : A.slots.length ≤ 1000000) :
    HCalls Try.prog 73 [.ptr a 4 0 0] H n fun r H' n' => r = .sc (.int .i32 (arAlloc A).2) ∧ ArTo H n a s fv H' n' (arAlloc A).1 := by
  have ha := h.ha
  have hs := h.hs
  have la := h.la
  have ls := h.ls
  have hne := h.ne
  obtain ⟨n0, n1, fr, fl, l0, l1⟩ := ok
  have hneq : ¬ a = s ∧ ¬ s = a ∧ ¬ a = n ∧ ¬ n = a ∧ ¬ s = n ∧ ¬ n = s := by and_intros <;> omega
  have w1 : IntKind.i64.wrap (A.live + 1) = A.live + 1 := wrap_in (by omega) (by omega)
  have w2 : IntKind.i32.wrap A.next = A.next := IntWalk.i32_in _ ⟨by omega, by omega⟩
  have w3 : IntKind.i64.wrap (A.next + 1) = A.next + 1 := wrap_in (by omega) (by omega)
  have hset : ∀ (l : List Slt) (i : Int), (SL l).set i.toNat [.sc (.int .u64 0), .sc (.int .u64 0), .sc (.int .i64 0), .sc (.int .i64 0), .sc (.int .i32 0), .sc (.int .i32 0), .sc (.bool true)] = SL (l.set i.toNat ⟨nd0, true⟩) := fun l i => SL_set l i.toNat ⟨nd0, true⟩
  have own : ∀ j, j < n → ¬ ArOwn a s fv j → ¬ j = a ∧ ¬ j = s ∧ ¬ j = n := fun j hj ho => ⟨fun e => ho (.inl e), fun e => ho (.inr (.inl e)), by omega⟩
  by_cases hf : A.freed = []
  · -- none is free
    have hal : arAlloc A = if A.next = A.slots.length then (⟨(A.slots ++ List.replicate A.slots.length slt0).set A.next.toNat ⟨nd0, true⟩, [], A.next + 1, A.live + 1⟩, A.next) else (⟨A.slots.set A.next.toNat ⟨nd0, true⟩, [], A.next + 1, A.live + 1⟩, A.next) := by
      unfold arAlloc
      rw [if_neg (by simp [hf])]
    have wneg : IntKind.i64.wrap (0 - 1) = -1 := by decide
    have hneg : ¬ (-1 : Int) ≥ 0 := by omega
    have hnil : I32 A.freed = [] := by rw [hf]; rfl
    have hf0 := h.hf
    have hgr := h.grown
    have hlen : ∀ (f m : Nat), fv = .sl f 1 0 m → f < n := h.lf
    have two : (fv = .sc (.slice none 0 0)) ∨ ∃ id, fv = .sl id 1 0 0 ∧ H id = some (.obj 21 1 [] false) := by
      rw [hnil] at hf0
      rcases hf0 with ⟨_, h2⟩ | ⟨id, h1, h2⟩
      · exact .inl h2
      · exact .inr ⟨id, h1, h2⟩
    have live2 : ∀ H2 : AH, (∀ f m, fv = .sl f 1 0 m → H2 f = H f) → Live 21 1 H2 (I32 []) fv := by
      intro H2 hk
      rcases two with h2 | ⟨id, h1, h2⟩
      · exact .inl ⟨rfl, h2⟩
      · exact .inr ⟨id, h1, by rw [hk _ _ h1]; exact h2⟩
    have fne : ∀ f m, fv = .sl f 1 0 m → ¬ f = a ∧ ¬ f = s ∧ ¬ f = n := by
      intro f m e
      refine ⟨?_, ?_, by have := hlen f m e; omega⟩
      · rintro rfl
        rcases two with h2 | ⟨id, h1, h2⟩
        · rw [h2] at e; cases e
        · rw [h1] at e; simp only [AV.sl.injEq] at e; rw [e.1, ha] at h2; simp at h2
      · rintro rfl
        rcases two with h2 | ⟨id, h1, h2⟩
        · rw [h2] at e; cases e
        · rw [h1] at e; simp only [AV.sl.injEq] at e; rw [e.1, hs] at h2; simp at h2
    have g0 : (0 : Int) ≤ A.next := by omega
    have head : ∀ Q : AS → Prop, True := fun _ => trivial
    rw [hal]
    by_cases hq : A.next = (A.slots.length : Int)
    · have hqt : (A.next = (A.slots.length : Int)) = True := eq_true hq
      have hget : (A.slots ++ List.replicate A.slots.length slt0)[A.next.toNat]? = some slt0 := by
        rw [List.getElem?_append_right (by omega), List.getElem?_replicate, if_pos (by omega)]
      have hg := SL_get hget
      have g1 : A.next < ((2 * A.slots.length : Nat) : Int) := by omega
      rw [if_pos hq]
      rcases two with h2 | ⟨id, h1, h2⟩
      · subst h2
        refine HCalls.walk Try.func73 rfl rfl Try.ntmps73 Try.results73 (by simp) ?_; simp (maxSteps := 400000) (dsimp := false) only [ha, w2, wneg, hneg, axs, AThen, ABlock, dstsOk, AStep, callsF, AWant, aop, AS.ev, AS.put, upd, AS.bound, abin, aint, aload, astore, cellsAt, AV.cells, alen, elems, AV.int?, FPost, aresL, ares1, pack, afill, splice, Value.oneCell', Nat.reduceLT, Nat.reduceLeDiff, Nat.reduceEqDiff, Nat.reduceAdd, Nat.reduceMul, Nat.reduceSub, Nat.reduceBEq, Int.reduceLE, Int.reduceLT, Int.reduceToNat, Int.reduceNeg, Int.reduceEq, axt, ftK, ft3, pickP, AScope, AAll, pickQ, ftQ, inHeap, tys]
        refine ADraw.planR [] [(0, true), (1, true), (2, true), (3, true), (4, true), (5, true), (6, true), (7, true), (8, true), (9, true)] [(0, false), (0, false), (0, false), (0, false), (0, false), (0, false), (0, false), (0, false), (0, false), (0, false)] mixed (by kernel_rfl) (by kernel_rfl) ?_
        simp (maxSteps := 400000) (dsimp := false) only [ha, hqt, axs, AThen, ABlock, dstsOk, AStep, callsF, AWant, aop, AS.ev, AS.put, upd, AS.bound, abin, aint, aload, astore, cellsAt, AV.cells, alen, elems, AV.int?, FPost, aresL, ares1, pack, afill, splice, Value.oneCell', Nat.reduceLT, Nat.reduceLeDiff, Nat.reduceEqDiff, Nat.reduceAdd, Nat.reduceMul, Nat.reduceSub, Nat.reduceBEq, Int.reduceLE, Int.reduceLT, Int.reduceToNat, Int.reduceNeg, Int.reduceEq, axt, ftK, ft3, pickP, AScope, AAll, pickQ, ftQ, inHeap, tys]
        refine ACallK.heap _ rfl (cArGrow h (by omega)) ?_; rintro r' H' n' ⟨rfl, eH, en⟩; obtain rfl := eH.symm; obtain rfl := en.symm; clear eH en; simp (maxSteps := 400000) (dsimp := false) only [hneq, w3, g0, g1, hg, hset, w1, upd_upd, axs, AThen, ABlock, dstsOk, AStep, callsF, AWant, aop, AS.ev, AS.put, upd, AS.bound, abin, aint, aload, astore, cellsAt, AV.cells, alen, elems, AV.int?, FPost, aresL, ares1, pack, afill, splice, Value.oneCell', Nat.reduceLT, Nat.reduceLeDiff, Nat.reduceEqDiff, Nat.reduceAdd, Nat.reduceMul, Nat.reduceSub, Nat.reduceBEq, Int.reduceLE, Int.reduceLT, Int.reduceToNat, Int.reduceNeg, Int.reduceEq, axt, ftK, ft3, pickP, AScope, AAll, pickQ, ftQ, inHeap, tys]
        refine ⟨_, rfl, rfl, by omega, ?_, n, _, ⟨?_, ?_, live2 _ (fun f m e => ?_), by omega, by omega, fun f m e => by have := hlen f m e; omega⟩, ?_⟩
        · intro j hj ho
          have := own j hj ho
          simp [upd, this]
        · simp [upd, hneq]
          try omega
        · simp [upd, hneq]
        · have := fne f m e
          simp [upd, this]
        · intro j hj
          rcases hj with rfl | rfl | hj
          · exact .inl (.inl rfl)
          · exact .inr (Nat.le_refl _)
          · exact .inl (.inr (.inr hj))
      · subst h1
        refine HCalls.walk Try.func73 rfl rfl Try.ntmps73 Try.results73 (by simp) ?_; simp (maxSteps := 400000) (dsimp := false) only [ha, w2, wneg, hneg, axs, AThen, ABlock, dstsOk, AStep, callsF, AWant, aop, AS.ev, AS.put, upd, AS.bound, abin, aint, aload, astore, cellsAt, AV.cells, alen, elems, AV.int?, FPost, aresL, ares1, pack, afill, splice, Value.oneCell', Nat.reduceLT, Nat.reduceLeDiff, Nat.reduceEqDiff, Nat.reduceAdd, Nat.reduceMul, Nat.reduceSub, Nat.reduceBEq, Int.reduceLE, Int.reduceLT, Int.reduceToNat, Int.reduceNeg, Int.reduceEq, axt, ftK, ft3, pickP, AScope, AAll, pickQ, ftQ, inHeap, tys]
        refine ADraw.planR [] [(0, true), (1, true), (2, true), (3, true), (4, true), (5, true), (6, true), (7, true), (8, true), (9, true)] [(0, false), (0, false), (0, false), (0, false), (0, false), (0, false), (0, false), (0, false), (0, false), (0, false)] mixed (by kernel_rfl) (by kernel_rfl) ?_
        simp (maxSteps := 400000) (dsimp := false) only [ha, hqt, axs, AThen, ABlock, dstsOk, AStep, callsF, AWant, aop, AS.ev, AS.put, upd, AS.bound, abin, aint, aload, astore, cellsAt, AV.cells, alen, elems, AV.int?, FPost, aresL, ares1, pack, afill, splice, Value.oneCell', Nat.reduceLT, Nat.reduceLeDiff, Nat.reduceEqDiff, Nat.reduceAdd, Nat.reduceMul, Nat.reduceSub, Nat.reduceBEq, Int.reduceLE, Int.reduceLT, Int.reduceToNat, Int.reduceNeg, Int.reduceEq, axt, ftK, ft3, pickP, AScope, AAll, pickQ, ftQ, inHeap, tys]
        refine ACallK.heap _ rfl (cArGrow h (by omega)) ?_; rintro r' H' n' ⟨rfl, eH, en⟩; obtain rfl := eH.symm; obtain rfl := en.symm; clear eH en; simp (maxSteps := 400000) (dsimp := false) only [hneq, w3, g0, g1, hg, hset, w1, upd_upd, axs, AThen, ABlock, dstsOk, AStep, callsF, AWant, aop, AS.ev, AS.put, upd, AS.bound, abin, aint, aload, astore, cellsAt, AV.cells, alen, elems, AV.int?, FPost, aresL, ares1, pack, afill, splice, Value.oneCell', Nat.reduceLT, Nat.reduceLeDiff, Nat.reduceEqDiff, Nat.reduceAdd, Nat.reduceMul, Nat.reduceSub, Nat.reduceBEq, Int.reduceLE, Int.reduceLT, Int.reduceToNat, Int.reduceNeg, Int.reduceEq, axt, ftK, ft3, pickP, AScope, AAll, pickQ, ftQ, inHeap, tys]
        refine ⟨_, rfl, rfl, by omega, ?_, n, _, ⟨?_, ?_, live2 _ (fun f m e => ?_), by omega, by omega, fun f m e => by have := hlen f m e; omega⟩, ?_⟩
        · intro j hj ho
          have := own j hj ho
          simp [upd, this]
        · simp [upd, hneq]
          try omega
        · simp [upd, hneq]
        · have := fne f m e
          simp [upd, this]
        · intro j hj
          rcases hj with rfl | rfl | hj
          · exact .inl (.inl rfl)
          · exact .inr (Nat.le_refl _)
          · exact .inl (.inr (.inr hj))
    · rw [if_neg hq]
      have hlt : A.next.toNat < A.slots.length := by omega
      have hget : A.slots[A.next.toNat]? = some A.slots[A.next.toNat] := List.getElem?_eq_getElem hlt
      have hg := SL_get hget
      have g1 : A.next < (A.slots.length : Int) := by omega
      rcases two with h2 | ⟨id, h1, h2⟩
      · subst h2
        refine HCalls.walk Try.func73 rfl rfl Try.ntmps73 Try.results73 (by simp) ?_; simp (maxSteps := 400000) (dsimp := false) only [ha, w2, wneg, hneg, axs, AThen, ABlock, dstsOk, AStep, callsF, AWant, aop, AS.ev, AS.put, upd, AS.bound, abin, aint, aload, astore, cellsAt, AV.cells, alen, elems, AV.int?, FPost, aresL, ares1, pack, afill, splice, Value.oneCell', Nat.reduceLT, Nat.reduceLeDiff, Nat.reduceEqDiff, Nat.reduceAdd, Nat.reduceMul, Nat.reduceSub, Nat.reduceBEq, Int.reduceLE, Int.reduceLT, Int.reduceToNat, Int.reduceNeg, Int.reduceEq, axt, ftK, ft3, pickP, AScope, AAll, pickQ, ftQ, inHeap, tys]
        refine ADraw.planR [] [(0, true), (1, true), (2, true), (3, true), (4, true), (5, true), (6, true), (7, true), (8, true), (9, true)] [(0, false), (0, false), (0, false), (0, false), (0, false), (0, false), (0, false), (0, false), (0, false), (0, false)] mixed (by kernel_rfl) (by kernel_rfl) ?_
        simp (maxSteps := 400000) (dsimp := false) only [ha, hs, hq, hneq, w3, g0, g1, hg, hset, w1, upd_upd, axs, AThen, ABlock, dstsOk, AStep, callsF, AWant, aop, AS.ev, AS.put, upd, AS.bound, abin, aint, aload, astore, cellsAt, AV.cells, alen, elems, AV.int?, FPost, aresL, ares1, pack, afill, splice, Value.oneCell', Nat.reduceLT, Nat.reduceLeDiff, Nat.reduceEqDiff, Nat.reduceAdd, Nat.reduceMul, Nat.reduceSub, Nat.reduceBEq, Int.reduceLE, Int.reduceLT, Int.reduceToNat, Int.reduceNeg, Int.reduceEq, axt, ftK, ft3, pickP, AScope, AAll, pickQ, ftQ, inHeap, tys]
        refine ⟨_, rfl, rfl, by omega, ?_, s, _, ⟨?_, ?_, live2 _ (fun f m e => ?_), by omega, by omega, fun f m e => by have := hlen f m e; omega⟩, ?_⟩
        · intro j hj ho
          have := own j hj ho
          simp [upd, this]
        · simp [upd, hneq]
          try omega
        · simp [upd, hneq]
        · have := fne f m e
          simp [upd, this]
        · intro j hj
          rcases hj with rfl | rfl | hj
          · exact .inl (.inl rfl)
          · exact .inl (.inr (.inl rfl))
          · exact .inl (.inr (.inr hj))
      · subst h1
        refine HCalls.walk Try.func73 rfl rfl Try.ntmps73 Try.results73 (by simp) ?_; simp (maxSteps := 400000) (dsimp := false) only [ha, w2, wneg, hneg, axs, AThen, ABlock, dstsOk, AStep, callsF, AWant, aop, AS.ev, AS.put, upd, AS.bound, abin, aint, aload, astore, cellsAt, AV.cells, alen, elems, AV.int?, FPost, aresL, ares1, pack, afill, splice, Value.oneCell', Nat.reduceLT, Nat.reduceLeDiff, Nat.reduceEqDiff, Nat.reduceAdd, Nat.reduceMul, Nat.reduceSub, Nat.reduceBEq, Int.reduceLE, Int.reduceLT, Int.reduceToNat, Int.reduceNeg, Int.reduceEq, axt, ftK, ft3, pickP, AScope, AAll, pickQ, ftQ, inHeap, tys]
        refine ADraw.planR [] [(0, true), (1, true), (2, true), (3, true), (4, true), (5, true), (6, true), (7, true), (8, true), (9, true)] [(0, false), (0, false), (0, false), (0, false), (0, false), (0, false), (0, false), (0, false), (0, false), (0, false)] mixed (by kernel_rfl) (by kernel_rfl) ?_
        simp (maxSteps := 400000) (dsimp := false) only [ha, hs, hq, hneq, w3, g0, g1, hg, hset, w1, upd_upd, axs, AThen, ABlock, dstsOk, AStep, callsF, AWant, aop, AS.ev, AS.put, upd, AS.bound, abin, aint, aload, astore, cellsAt, AV.cells, alen, elems, AV.int?, FPost, aresL, ares1, pack, afill, splice, Value.oneCell', Nat.reduceLT, Nat.reduceLeDiff, Nat.reduceEqDiff, Nat.reduceAdd, Nat.reduceMul, Nat.reduceSub, Nat.reduceBEq, Int.reduceLE, Int.reduceLT, Int.reduceToNat, Int.reduceNeg, Int.reduceEq, axt, ftK, ft3, pickP, AScope, AAll, pickQ, ftQ, inHeap, tys]
        refine ⟨_, rfl, rfl, by omega, ?_, s, _, ⟨?_, ?_, live2 _ (fun f m e => ?_), by omega, by omega, fun f m e => by have := hlen f m e; omega⟩, ?_⟩
        · intro j hj ho
          have := own j hj ho
          simp [upd, this]
        · simp [upd, hneq]
          try omega
        · simp [upd, hneq]
        · have := fne f m e
          simp [upd, this]
        · intro j hj
          rcases hj with rfl | rfl | hj
          · exact .inl (.inl rfl)
          · exact .inl (.inr (.inl rfl))
          · exact .inl (.inr (.inr hj))
  · -- the last one that was freed
    have hal : arAlloc A = (⟨A.slots.set (lastI A.freed).toNat ⟨nd0, true⟩, A.freed.take (A.freed.length - 1), A.next, A.live + 1⟩, lastI A.freed) := by
      unfold arAlloc
      rw [if_pos hf]
    rw [hal]
    have hfl := List.length_pos_iff.2 hf
    rcases h.hf with ⟨h7, h8⟩ | ⟨id, h7, h8⟩
    · exfalso
      apply hf
      have := congrArg List.length h7
      rw [I32_len] at this
      exact List.length_eq_zero_iff.1 this
    · have hid1 : ¬ id = a := by rintro rfl; rw [ha] at h8; simp at h8
      have hid2 : ¬ id = s := by rintro rfl; rw [hs] at h8; simp at h8
      have hid3 := h.lf _ _ h7
      have hid : ¬ id = a ∧ ¬ a = id ∧ ¬ id = s ∧ ¬ s = id := by and_intros <;> omega
      subst h7
      rw [I32_len] at ha own
      have hm := List.mem_of_getElem? (lastI_get hf)
      obtain ⟨p0, p1⟩ := fr _ hm
      have hlt : (lastI A.freed).toNat < A.slots.length := by omega
      have hg := SL_get (List.getElem?_eq_getElem hlt)
      have hgi := I32_get (lastI_get hf)
      have v1 : IntKind.i64.wrap ((A.freed.length : Int) - 1) = ((A.freed.length - 1 : Nat) : Int) := by rw [wrap_in (by omega) (by omega)]; omega
      have v2 : ((A.freed.length - 1 : Nat) : Int) ≥ 0 := by omega
      have v3 : (0 : Int) ≤ ((A.freed.length - 1 : Nat) : Int) := by omega
      have v4 : ((A.freed.length - 1 : Nat) : Int) < (A.freed.length : Int) := by omega
      have q0 : 0 ≤ lastI A.freed := by omega
      refine HCalls.walk Try.func73 rfl rfl Try.ntmps73 Try.results73 (by simp) ?_; simp (maxSteps := 400000) (dsimp := false) only [ha, w2, v1, v2, v3, v4, h8, hgi, axs, AThen, ABlock, dstsOk, AStep, callsF, AWant, aop, AS.ev, AS.put, upd, AS.bound, abin, aint, aload, astore, cellsAt, AV.cells, alen, elems, AV.int?, FPost, aresL, ares1, pack, afill, splice, Value.oneCell', Nat.reduceLT, Nat.reduceLeDiff, Nat.reduceEqDiff, Nat.reduceAdd, Nat.reduceMul, Nat.reduceSub, Nat.reduceBEq, Int.reduceLE, Int.reduceLT, Int.reduceToNat, Int.reduceNeg, Int.reduceEq, axt, ftK, ft3, pickP, AScope, AAll, pickQ, ftQ, inHeap, tys]
      refine AStepX.shrink (k := A.freed.length - 1) h8 ?_
      refine AStepX.slice3 rfl sl84 ty21 rfl rfl rfl rfl v3 (by omega) ?_
      simp (maxSteps := 400000) (dsimp := false) only [ha, hs, hneq, hid, w1, p1, q0, hg, hset, axs, AThen, ABlock, dstsOk, AStep, callsF, AWant, aop, AS.ev, AS.put, upd, AS.bound, abin, aint, aload, astore, cellsAt, AV.cells, alen, elems, AV.int?, FPost, aresL, ares1, pack, afill, splice, Value.oneCell', Nat.reduceLT, Nat.reduceLeDiff, Nat.reduceEqDiff, Nat.reduceAdd, Nat.reduceMul, Nat.reduceSub, Nat.reduceBEq, Int.reduceLE, Int.reduceLT, Int.reduceToNat, Int.reduceNeg, Int.reduceEq, axt, ftK, ft3, pickP, AScope, AAll, pickQ, ftQ, inHeap, tys]
      refine ⟨_, rfl, rfl, by omega, ?_, s, .sl id 1 0 (A.freed.length - 1), ⟨?_, ?_, Live.mk (te := 21) ?_ ?_, by omega, by omega, fun f m e => ?_⟩, ?_⟩
      · intro j hj ho
        rw [I32_len] at ho
        have h9 := own j hj ho
        have h10 : ¬ j = id := fun e => ho (.inr (.inr ⟨_, by rw [e]⟩))
        simp [upd, h9, h10]
      · simp [upd, hneq]
      · simp [upd, hneq]
      · simp [upd, hid, I32_take]
      · rw [I32_len]; simp
      · simp only [AV.sl.injEq] at e
        omega
      · intro j hj
        rcases hj with rfl | rfl | ⟨m, e⟩
        · exact .inl (.inl rfl)
        · exact .inl (.inr (.inl rfl))
        · simp only [AV.sl.injEq] at e
          obtain ⟨rfl, _⟩ := e
          exact .inl (.inr (.inr ⟨_, rfl⟩))
end Go.Al
