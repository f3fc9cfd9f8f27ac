/- Low inter-reference recency: a copy of the stack, changed. Conditions: the rows are short. -/
import Derived.Test.YthglbfgmohgfdaaKi3
set_option linter.unusedVariables false
set_option linter.unusedSimpArgs false
set_option maxRecDepth 20000
set_option maxHeartbeats 3200000
-- NOIDS: noIdsE_IT
-- LENS: IT_len
namespace Go.Al
open Go.Proofs
/-- A capacity, a stack, a queue. -/
structure LS where
  C : Int
  S : List (Int × Int)
  Q : List Int
def SL (s : LS) : AV := .agg [.sc (.int .i64 s.C), .lst 2 (IT s.S), .lst 1 (U s.Q)]
/-- A function that changes a row of items. -/
def ChF (g : Nat) (caps : List AV) (l l' : List (Int × Int)) (H : AH) (b : Nat) : Prop := ∀ (v : AV) (H1 : AH) (n1 : Nat), b ≤ n1 → (∀ j, j < b → H1 j = H j) → Live 58 2 H1 (IT l) v → (∀ id z o m, v = .sl id z o m → b ≤ id ∧ id < n1) →
  HCalls Try.prog g (v :: caps) H1 n1 fun r H' n' => Live 58 2 H' (IT l') r ∧ (∀ id z o m, r = .sl id z o m → (∃ z o m, v = .sl id z o m) ∨ n1 ≤ id) ∧ n1 ≤ n' ∧ ∀ j, j < n1 → (∀ z o m, v ≠ .sl j z o m) → H' j = H1 j
theorem cChange (s : LS) (l' : List (Int × Int)) (hl : s.S.length ≤ 1000000) {g : Nat} {caps : List AV} {H : AH} {n : Nat} (hf : ChF g caps s.S l' H n) :
    HCalls Try.prog 64 [SL s, .fn g caps] H n fun v H' n' => v = SL ⟨s.C, l', s.Q⟩ ∧ H' = H ∧ n' = n := by
  refine HCalls.freeze ?_
  unfold SL
  refine HCalls.walk Try.func64 rfl rfl Try.ntmps64 Try.results64 (by simp) ?_; simp (maxSteps := 400000) (dsimp := false) only [axs, AThen, ABlock, dstsOk, AStep, callsF, AWant, aop, AS.ev, AS.put, upd, AS.bound, abin, aint, aload, astore, cellsAt, AV.cells, alen, elems, AV.int?, FPost, aresL, ares1, pack, afill, splice, Value.oneCell', Nat.reduceLT, Nat.reduceLeDiff, Nat.reduceEqDiff, Nat.reduceAdd, Nat.reduceMul, Nat.reduceSub, Nat.reduceBEq, Int.reduceLE, Int.reduceLT, Int.reduceToNat, Int.reduceNeg, Int.reduceEq, axt, ftK, ft3, pickP, AScope, AAll, pickQ, ftQ, inHeap, tys]
  refine ACallK.heap _ rfl (cCloneX s.S hl _ _) ?_
  rintro v H1 n1 ⟨lv, hidv, kp⟩
  have kp : Keeps _ (n + 1 + 1) H1 n1 := kp
  have lv : Live 58 2 H1 (IT s.S) v := lv
  have hidv : ∀ id z o m, v = .sl id z o m → n + 1 + 1 ≤ id ∧ id < n1 := hidv
  have hn1 := kp.1
  have e1 := (kp.2 (n + 1) (by omega)).trans (upd_same _ _ _)
  have e0 := (kp.2 n (by omega)).trans ((upd_ne _ _ (by omega)).trans (upd_same _ _ _))
  have ek : ∀ j, j < n → H1 j = H j := fun j hj => (kp.2 j (by omega)).trans ((upd_ne _ _ (by omega)).trans (upd_ne _ _ (by omega)))
  clear kp
  simp (maxSteps := 400000) (dsimp := false) only [axs, AThen, ABlock, dstsOk, AStep, callsF, AWant, aop, AS.ev, AS.put, upd, AS.bound, abin, aint, aload, astore, cellsAt, AV.cells, alen, elems, AV.int?, FPost, aresL, ares1, pack, afill, splice, Value.oneCell', Nat.reduceLT, Nat.reduceLeDiff, Nat.reduceEqDiff, Nat.reduceAdd, Nat.reduceMul, Nat.reduceSub, Nat.reduceBEq, Int.reduceLE, Int.reduceLT, Int.reduceToNat, Int.reduceNeg, Int.reduceEq, axt, ftK, ft3, pickP, AScope, AAll, pickQ, ftQ, inHeap, tys]
  have hc := hf v H1 n1 (by omega) ek lv (fun id z o m e => by have := hidv id z o m e; omega)
  refine ACallK.heap _ rfl hc ?_
  rintro r H2 n2 ⟨lr, hir, hn2, hk2⟩
  have hn2 : n1 ≤ n2 := hn2
  have lr : Live 58 2 H2 (IT l') r := lr
  have hk2 : ∀ j, j < n1 → (∀ z o m, v ≠ .sl j z o m) → H2 j = H1 j := hk2
  have f1 := (hk2 (n + 1) (by omega) fun z o m e => by have := (hidv _ _ _ _ e).1; omega).trans e1
  have f0 := (hk2 n (by omega) fun z o m e => by have := (hidv _ _ _ _ e).1; omega).trans e0
  have fk : ∀ j, j < n → H2 j = H j := fun j hj => (hk2 j (by omega) fun z o m e => by have := (hidv _ _ _ _ e).1; omega).trans (ek j hj)
  have hir2 : ∀ id z o m, r = .sl id z o m → n + 1 + 1 ≤ id := fun id z o m e => by
    rcases hir id z o m e with ⟨z', o', m', h⟩ | h
    · exact (hidv _ _ _ _ h).1
    · have h : n1 ≤ id := h
      omega
  have hne : ¬ n = n + 1 ∧ ¬ n + 1 = n := by omega
  have hU : ∀ H3 : AH, Sees H3 false (.lst 1 (U s.Q)) (.lst 1 (U s.Q)) := fun _ => Sees.same (by simp [noIds, noIdsE_U])
  rcases lr with ⟨h1, h2⟩ | ⟨id, h1, h2⟩
  · subst h2
    simp (maxSteps := 400000) (dsimp := false) only [f0, f1, hne, axs, AThen, ABlock, dstsOk, AStep, callsF, AWant, aop, AS.ev, AS.put, upd, AS.bound, abin, aint, aload, astore, cellsAt, AV.cells, alen, elems, AV.int?, FPost, aresL, ares1, pack, afill, splice, Value.oneCell', Nat.reduceLT, Nat.reduceLeDiff, Nat.reduceEqDiff, Nat.reduceAdd, Nat.reduceMul, Nat.reduceSub, Nat.reduceBEq, Int.reduceLE, Int.reduceLT, Int.reduceToNat, Int.reduceNeg, Int.reduceEq, axt, ftK, ft3, pickP, AScope, AAll, pickQ, ftQ, inHeap, tys]
    refine ⟨_, rfl, .inr ⟨Sees.agg (by simp only [SeesL]; exact ⟨Sees.sc, by rw [h1]; exact Sees.none, hU _, trivial⟩), ⟨by omega, fun j hj => (upd_ne _ _ (by omega)).trans ((upd_ne _ _ (by omega)).trans (fk j hj))⟩⟩⟩
  · have hid := hir2 _ _ _ _ h1
    subst h1
    have hne2 : ¬ id = n ∧ ¬ id = n + 1 := by omega
    simp (maxSteps := 400000) (dsimp := false) only [f0, f1, hne, axs, AThen, ABlock, dstsOk, AStep, callsF, AWant, aop, AS.ev, AS.put, upd, AS.bound, abin, aint, aload, astore, cellsAt, AV.cells, alen, elems, AV.int?, FPost, aresL, ares1, pack, afill, splice, Value.oneCell', Nat.reduceLT, Nat.reduceLeDiff, Nat.reduceEqDiff, Nat.reduceAdd, Nat.reduceMul, Nat.reduceSub, Nat.reduceBEq, Int.reduceLE, Int.reduceLT, Int.reduceToNat, Int.reduceNeg, Int.reduceEq, axt, ftK, ft3, pickP, AScope, AAll, pickQ, ftQ, inHeap, tys]
    refine ⟨_, rfl, .inl ⟨id, 58, 2, IT l', (upd_ne _ _ hne2.2).trans ((upd_ne _ _ hne2.1).trans h2), by omega, Sees.agg (by simp only [SeesL]; exact ⟨Sees.sc, Sees.whole (upd_same _ _ _) rfl rfl (noIdsE_IT _), hU _, trivial⟩), ⟨by omega, fun j hj => (upd_ne _ _ (by omega)).trans ((upd_ne _ _ (by omega)).trans (fk j hj))⟩⟩⟩
/-- The function of take. -/
theorem cTakeF (l : List (Int × Int)) (i : Nat) (h : i < l.length) (hl : l.length ≤ 1000000) {kb te b : Nat} {H : AH} (hk : H kb = some (.obj te 1 [[.sc (.int .i64 i)]] false)) (hb : kb < b) : ChF 72 [.ptr kb 1 0 0] l (l.eraseIdx i) H b := by
  intro v H1 n1 hn he lv hid
  have hk1 := (he kb hb).trans hk
  have hw : IntKind.i64.wrap ((i : Int) + 1) = ((i + 1 : Nat) : Int) := by rw [wrap_in (by omega) (by omega)]; rfl
  rcases lv with ⟨h1, h2⟩ | ⟨id, h1, h2⟩
  · have : l = [] := IT_nil h1
    rw [this] at h
    exact absurd h (Nat.not_lt_zero _)
  · have hq := hid _ _ _ _ h1
    clear hid
    rw [IT_len] at h1
    subst h1
    refine HCalls.walk Try.func72 rfl rfl Try.ntmps72 Try.results72 (by simp) ?_; simp (maxSteps := 400000) (dsimp := false) only [hk1, hw, axs, AThen, ABlock, dstsOk, AStep, callsF, AWant, aop, AS.ev, AS.put, upd, AS.bound, abin, aint, aload, astore, cellsAt, AV.cells, alen, elems, AV.int?, FPost, aresL, ares1, pack, afill, splice, Value.oneCell', Nat.reduceLT, Nat.reduceLeDiff, Nat.reduceEqDiff, Nat.reduceAdd, Nat.reduceMul, Nat.reduceSub, Nat.reduceBEq, Int.reduceLE, Int.reduceLT, Int.reduceToNat, Int.reduceNeg, Int.reduceEq, axt, ftK, ft3, pickP, AScope, AAll, pickQ, ftQ, inHeap, tys]
    refine ACallK.heap _ rfl (cDelAtX l i h hl h2 hq.2) ?_
    rintro r H2 n2 ⟨lr, hir, rfl, hk2⟩
    simp (maxSteps := 400000) (dsimp := false) only [axs, AThen, ABlock, dstsOk, AStep, callsF, AWant, aop, AS.ev, AS.put, upd, AS.bound, abin, aint, aload, astore, cellsAt, AV.cells, alen, elems, AV.int?, FPost, aresL, ares1, pack, afill, splice, Value.oneCell', Nat.reduceLT, Nat.reduceLeDiff, Nat.reduceEqDiff, Nat.reduceAdd, Nat.reduceMul, Nat.reduceSub, Nat.reduceBEq, Int.reduceLE, Int.reduceLT, Int.reduceToNat, Int.reduceNeg, Int.reduceEq, axt, ftK, ft3, pickP, AScope, AAll, pickQ, ftQ, inHeap, tys]
    exact ⟨_, rfl, lr, (fun id' z o m e => .inl ⟨2, 0, l.length, by rw [hir _ _ _ _ e]⟩), fun j hj hne => hk2 j (fun e => hne 2 0 l.length (by rw [e]))⟩
/-- The function of prune. -/
theorem cPruneF (l : List (Int × Int)) (i : Nat) (h : i ≤ l.length) {kb te b : Nat} {H : AH} (hk : H kb = some (.obj te 1 [[.sc (.int .i64 i)]] false)) (hb : kb < b) : ChF 71 [.ptr kb 1 0 0] l (l.take i) H b := by
  intro v H1 n1 hn he lv hid
  have hk1 := (he kb hb).trans hk
  have i0 : (0 : Int) ≤ (i : Int) := by omega
  have i1 : (i : Int) ≤ l.length := by omega
  rcases lv with ⟨h1, h2⟩ | ⟨id, h1, h2⟩
  · have : l = [] := IT_nil h1
    subst this
    obtain rfl : i = 0 := by simpa using h
    subst h2
    refine HCalls.walk Try.func71 rfl rfl Try.ntmps71 Try.results71 (by simp) ?_; simp (maxSteps := 400000) (dsimp := false) only [hk1, axs, AThen, ABlock, dstsOk, AStep, callsF, AWant, aop, AS.ev, AS.put, upd, AS.bound, abin, aint, aload, astore, cellsAt, AV.cells, alen, elems, AV.int?, FPost, aresL, ares1, pack, afill, splice, Value.oneCell', Nat.reduceLT, Nat.reduceLeDiff, Nat.reduceEqDiff, Nat.reduceAdd, Nat.reduceMul, Nat.reduceSub, Nat.reduceBEq, Int.reduceLE, Int.reduceLT, Int.reduceToNat, Int.reduceNeg, Int.reduceEq, axt, ftK, ft3, pickP, AScope, AAll, pickQ, ftQ, inHeap, tys]
    exact ⟨_, rfl, Live.nil, (fun id z o m e => (nomatch e)), fun _ _ _ => trivial⟩
  · rw [IT_len] at h1
    subst h1
    refine HCalls.shrink (R := fun v H' n' => v = .sl id 2 0 i ∧ H' = H1 ∧ n' = n1) ?_ ?_
    · refine HCalls.walk Try.func71 rfl rfl Try.ntmps71 Try.results71 (by simp) ?_; simp (maxSteps := 400000) (dsimp := false) only [hk1, i0, i1, IT_len, axs, AThen, ABlock, dstsOk, AStep, callsF, AWant, aop, AS.ev, AS.put, upd, AS.bound, abin, aint, aload, astore, cellsAt, AV.cells, alen, elems, AV.int?, FPost, aresL, ares1, pack, afill, splice, Value.oneCell', Nat.reduceLT, Nat.reduceLeDiff, Nat.reduceEqDiff, Nat.reduceAdd, Nat.reduceMul, Nat.reduceSub, Nat.reduceBEq, Int.reduceLE, Int.reduceLT, Int.reduceToNat, Int.reduceNeg, Int.reduceEq, axt, ftK, ft3, pickP, AScope, AAll, pickQ, ftQ, inHeap, tys]
      exact ⟨_, rfl, rfl⟩
    · rintro r H' n' ⟨rfl, rfl, rfl⟩
      refine .inr ⟨id, _, _, _, i, h2, Live.mk ((upd_same _ _ _).trans (by rw [IT_take])) (by rw [IT_len, List.length_take]; omega), (fun id' z o m e => by cases e; exact .inl ⟨_, _, _, rfl⟩), Nat.le_refl _, fun j hj hne => upd_ne _ _ (fun e => hne 2 0 l.length (by rw [e]))⟩
/-- The function of kind. -/
theorem cKindF (l : List (Int × Int)) (i : Nat) (kd : Int) {x : Int × Int} (hx : l[i]? = some x) {ka kb te tf b : Nat} {H : AH} (hk : H ka = some (.obj te 1 [[.sc (.int .i64 kd)]] false)) (hi : H kb = some (.obj tf 1 [[.sc (.int .i64 i)]] false)) (ha : ka < b) (hb : kb < b) : ChF 80 [.ptr ka 1 0 0, .ptr kb 1 0 0] l (l.set i (x.1, kd)) H b := by
  intro v H1 n1 hn he lv hid
  have hk1 := (he ka ha).trans hk
  have hk2 := (he kb hb).trans hi
  have hlt := (List.getElem?_eq_some_iff.1 hx).1
  have i0 : (0 : Int) ≤ (i : Int) := by omega
  have i1 : (i : Int) < l.length := by omega
  have hg := IT_get hx
  rcases lv with ⟨h1, h2⟩ | ⟨id, h1, h2⟩
  · have : l = [] := IT_nil h1
    rw [this] at hlt
    exact absurd hlt (Nat.not_lt_zero _)
  · have hq := hid _ _ _ _ h1
    clear hid
    rw [IT_len] at h1
    subst h1
    have hne : ¬ ka = id ∧ ¬ kb = id := by omega
    refine HCalls.walk Try.func80 rfl rfl Try.ntmps80 Try.results80 (by simp) ?_; simp (maxSteps := 400000) (dsimp := false) only [hk1, hk2, i0, i1, h2, hg, IT_len, hne, axs, AThen, ABlock, dstsOk, AStep, callsF, AWant, aop, AS.ev, AS.put, upd, AS.bound, abin, aint, aload, astore, cellsAt, AV.cells, alen, elems, AV.int?, FPost, aresL, ares1, pack, afill, splice, Value.oneCell', Nat.reduceLT, Nat.reduceLeDiff, Nat.reduceEqDiff, Nat.reduceAdd, Nat.reduceMul, Nat.reduceSub, Nat.reduceBEq, Int.reduceLE, Int.reduceLT, Int.reduceToNat, Int.reduceNeg, Int.reduceEq, axt, ftK, ft3, pickP, AScope, AAll, pickQ, ftQ, inHeap, tys]
    rw [IT_set]
    exact ⟨_, rfl, Live.mk (upd_same _ _ _) (by rw [IT_len, List.length_set]), (fun id' z o m e => by cases e; exact .inl ⟨_, _, _, rfl⟩), fun j hj hne => if_neg (fun e => hne 2 0 l.length (by rw [e]))⟩
/-- The function of stack. -/
theorem cStackF (l : List (Int × Int)) (k kd : Int) (hl : l.length ≤ 1000000) {ka kb te tf b : Nat} {H : AH} (hk : H ka = some (.obj te 1 [[.sc (.int .u64 k)]] false)) (hi : H kb = some (.obj tf 1 [[.sc (.int .i64 kd)]] false)) (ha : ka < b) (hb : kb < b) : ChF 65 [.ptr ka 1 0 0, .ptr kb 1 0 0] l ((k, kd) :: l) H b := by
  intro v H1 n1 hn he lv hid
  have hk1 := (he ka ha).trans hk
  have hk2 := (he kb hb).trans hi
  rcases lv with ⟨h1, h2⟩ | ⟨id, h1, h2⟩
  · have : l = [] := IT_nil h1
    subst this
    subst h2
    refine HCalls.walk Try.func65 rfl rfl Try.ntmps65 Try.results65 (by simp) ?_; simp (maxSteps := 400000) (dsimp := false) only [hk1, hk2, axs, AThen, ABlock, dstsOk, AStep, callsF, AWant, aop, AS.ev, AS.put, upd, AS.bound, abin, aint, aload, astore, cellsAt, AV.cells, alen, elems, AV.int?, FPost, aresL, ares1, pack, afill, splice, Value.oneCell', Nat.reduceLT, Nat.reduceLeDiff, Nat.reduceEqDiff, Nat.reduceAdd, Nat.reduceMul, Nat.reduceSub, Nat.reduceBEq, Int.reduceLE, Int.reduceLT, Int.reduceToNat, Int.reduceNeg, Int.reduceEq, axt, ftK, ft3, pickP, AScope, AAll, pickQ, ftQ, inHeap, tys]
    refine ACallK.heap _ rfl (cInsNil (k, kd) _ _ n1 (upd_same _ _ _)) ?_
    rintro r H2 n2 ⟨lr, hir, kp⟩
    have kp : Keeps _ (n1 + 1) H2 n2 := kp
    have hir : ∀ i z o m, r = .sl i z o m → n1 + 1 ≤ i := hir
    have := kp.1
    simp (maxSteps := 400000) (dsimp := false) only [axs, AThen, ABlock, dstsOk, AStep, callsF, AWant, aop, AS.ev, AS.put, upd, AS.bound, abin, aint, aload, astore, cellsAt, AV.cells, alen, elems, AV.int?, FPost, aresL, ares1, pack, afill, splice, Value.oneCell', Nat.reduceLT, Nat.reduceLeDiff, Nat.reduceEqDiff, Nat.reduceAdd, Nat.reduceMul, Nat.reduceSub, Nat.reduceBEq, Int.reduceLE, Int.reduceLT, Int.reduceToNat, Int.reduceNeg, Int.reduceEq, axt, ftK, ft3, pickP, AScope, AAll, pickQ, ftQ, inHeap, tys]
    exact ⟨_, rfl, lr, (fun id' z o m e => .inr (by have := hir _ _ _ _ e; omega)), by omega, fun j hj hne => (kp.2 j (by omega)).trans (upd_ne _ _ (by omega))⟩
  · have hq := hid _ _ _ _ h1
    clear hid
    rw [IT_len] at h1
    subst h1
    refine HCalls.walk Try.func65 rfl rfl Try.ntmps65 Try.results65 (by simp) ?_; simp (maxSteps := 400000) (dsimp := false) only [hk1, hk2, axs, AThen, ABlock, dstsOk, AStep, callsF, AWant, aop, AS.ev, AS.put, upd, AS.bound, abin, aint, aload, astore, cellsAt, AV.cells, alen, elems, AV.int?, FPost, aresL, ares1, pack, afill, splice, Value.oneCell', Nat.reduceLT, Nat.reduceLeDiff, Nat.reduceEqDiff, Nat.reduceAdd, Nat.reduceMul, Nat.reduceSub, Nat.reduceBEq, Int.reduceLE, Int.reduceLT, Int.reduceToNat, Int.reduceNeg, Int.reduceEq, axt, ftK, ft3, pickP, AScope, AAll, pickQ, ftQ, inHeap, tys]
    by_cases hl0 : l = []
    · subst hl0
      refine ACallK.heap _ rfl (cInsEmpty (k, kd) _ _ n1 id (by omega) ((upd_ne _ _ (by omega)).trans h2) (upd_same _ _ _)) ?_
      rintro r H2 n2 ⟨lr, hir, hn2, hk3⟩
      have hn2 : n1 + 1 ≤ n2 := hn2
      have hir : ∀ i z o m, r = .sl i z o m → i = id ∨ n1 + 1 ≤ i := hir
      have hk3 : ∀ j, j < n1 + 1 → j ≠ id → H2 j = _ := hk3
      simp (maxSteps := 400000) (dsimp := false) only [axs, AThen, ABlock, dstsOk, AStep, callsF, AWant, aop, AS.ev, AS.put, upd, AS.bound, abin, aint, aload, astore, cellsAt, AV.cells, alen, elems, AV.int?, FPost, aresL, ares1, pack, afill, splice, Value.oneCell', Nat.reduceLT, Nat.reduceLeDiff, Nat.reduceEqDiff, Nat.reduceAdd, Nat.reduceMul, Nat.reduceSub, Nat.reduceBEq, Int.reduceLE, Int.reduceLT, Int.reduceToNat, Int.reduceNeg, Int.reduceEq, axt, ftK, ft3, pickP, AScope, AAll, pickQ, ftQ, inHeap, tys]
      exact ⟨_, rfl, lr, (fun id' z o m e => by rcases hir _ _ _ _ e with rfl | h; exact .inl ⟨_, _, _, rfl⟩; exact .inr (by omega)), by omega, fun j hj hne => (hk3 j (by omega) (fun e => hne 2 0 0 (by rw [e]))).trans (upd_ne _ _ (by omega))⟩
    · refine ACallK.heap _ rfl (cInsRow l (k, kd) hl0 hl _ _ n1 id (by omega) (Nat.lt_succ_self _) (Nat.lt_succ_of_lt hq.2) ((upd_ne _ _ (by omega)).trans h2) (upd_same _ _ _)) ?_
      rintro r H2 n2 ⟨lr, hir, hn2, hk3⟩
      have hn2 : n1 + 1 ≤ n2 := hn2
      have hir : ∀ i z o m, r = .sl i z o m → i = id ∨ n1 + 1 ≤ i := hir
      have hk3 : ∀ j, j < n1 + 1 → j ≠ id → H2 j = _ := hk3
      simp (maxSteps := 400000) (dsimp := false) only [axs, AThen, ABlock, dstsOk, AStep, callsF, AWant, aop, AS.ev, AS.put, upd, AS.bound, abin, aint, aload, astore, cellsAt, AV.cells, alen, elems, AV.int?, FPost, aresL, ares1, pack, afill, splice, Value.oneCell', Nat.reduceLT, Nat.reduceLeDiff, Nat.reduceEqDiff, Nat.reduceAdd, Nat.reduceMul, Nat.reduceSub, Nat.reduceBEq, Int.reduceLE, Int.reduceLT, Int.reduceToNat, Int.reduceNeg, Int.reduceEq, axt, ftK, ft3, pickP, AScope, AAll, pickQ, ftQ, inHeap, tys]
      exact ⟨_, rfl, lr, (fun id' z o m e => by rcases hir _ _ _ _ e with rfl | h; exact .inl ⟨_, _, _, rfl⟩; exact .inr (by omega)), by omega, fun j hj hne => (hk3 j (by omega) (fun e => hne 2 0 l.length (by rw [e]))).trans (upd_ne _ _ (by omega))⟩
end Go.Al
