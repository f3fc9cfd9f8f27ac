/- Keys in queues: an act, by the program and by the reference; a new store. Conditions: few keys. Keys in queues, by the reference: an act; a new store. Conditions: few keys. Keys in queues: acts, one behind the other, by the program and the reference. Conditions: few acts. -/
import Derived.Test.YtdebjhjnpomlmaaSt18
section
set_option linter.unusedVariables false
set_option linter.unusedSimpArgs false
set_option maxRecDepth 20000
set_option maxHeartbeats 6400000
-- axs, AThen, ABlock, dstsOk, AStep, callsF, AWant, aop, AS.ev, AS.put, upd, AS.bound, abin, aint, aload, astore, cellsAt, AV.cells, alen, elems, AV.int?, FPost, aresL, ares1, pack, afill, splice, Value.oneCell', Nat.reduceLT, Nat.reduceLeDiff, Nat.reduceEqDiff, Nat.reduceAdd, Nat.reduceMul, Nat.reduceSub, Nat.reduceBEq, Int.reduceLE, Int.reduceLT, Int.reduceToNat, Int.reduceNeg, Int.reduceEq, axt, ftK, ft3, pickP, AScope, AAll, pickQ, ftQ, inHeap, SAct.cells, tys: SAct.cells
-- NOIDS: noIdsE_EN, noIdsE_LE, noIdsE_TL, noIdsE_U
-- LENS: EN_len, LE_len, TL_len, U_len
namespace Go.Al
open Go.Proofs
/-- An act: its kind, a queue, a key, a value, a flag. -/
structure SAct where
  kind : Int
  q : Int
  key : Int
  val : Int
  flag : Int
def SAct.cells (a : SAct) : List AV := [.sc (.int .u8 a.kind), .sc (.int .i64 a.q), .sc (.int .u64 a.key), .sc (.int .u64 a.val), .sc (.int .i64 a.flag)]
structure SAct.Fits (a : SAct) : Prop where
  k0 : 0 ≤ a.kind
  k1 : a.kind < 256
  key : Key a.key
def SA (l : List SAct) : List (List AV) := l.map SAct.cells
theorem SA_len (l : List SAct) : (SA l).length = l.length := by simp [SA]
theorem SA_get {l : List SAct} {p : Nat} {x : SAct} (h : l[p]? = some x) : (SA l)[p]? = some [.sc (.int .u8 x.kind), .sc (.int .i64 x.q), .sc (.int .u64 x.key), .sc (.int .u64 x.val), .sc (.int .i64 x.flag)] := by simp [SA, h, SAct.cells]
theorem noIdsE_SA (l : List SAct) : noIdsE (SA l) = true := noIdsE_map _ (fun x => by simp [SAct.cells, noIdsL, noIds]) l
theorem sact_of {x : List Value} (h : FitK [some .u8, some .i64, some .u64, some .u64, some .i64] x) : ∃ a : SAct, a.Fits ∧ x.map AV.sc = a.cells := by
  simp only [FitK] at h
  obtain ⟨a, r, rfl, ha, b, r, rfl, hb, c, r, rfl, hc, d, r, rfl, hd, e, r, rfl, he, rfl⟩ := h
  simp [Lit.wf, IntKind.min, IntKind.max, IntKind.signed, IntKind.bits] at ha hc
  exact ⟨⟨a, b, c, d, e⟩, ⟨ha.1, by show a < 256; omega, ⟨hc.1, by show c < _; omega⟩⟩, rfl⟩
theorem rows_SA {es : List (List Value)} (h : ∀ x ∈ es, FitK [some .u8, some .i64, some .u64, some .u64, some .i64] x) : ∃ l : List SAct, (es.map fun e => e.map AV.sc) = SA l ∧ (∀ a ∈ l, a.Fits) ∧ l.length = es.length :=
  rows_of SAct.cells SAct.Fits (fun x hx => sact_of hx) h
def stDo (x : SS) (a : SAct) : SS × Bool :=
  if a.kind.tmod 6 = 0 then (psfS x a.q a.key, psOk x a.q a.key) else if a.kind.tmod 6 = 1 then (psbS x a.q a.key, psOk x a.q a.key) else if a.kind.tmod 6 = 2 then (movS x a.q a.key, movOk x a.q a.key) else if a.kind.tmod 6 = 3 then (remS x a.key, isIn x a.key) else if a.kind.tmod 6 = 4 then (setS x a.key (gVal a.val), isIn x a.key) else (setS x a.key (gFlag a.flag), isIn x a.key)
/-- The reference's table behind an act. -/
def doU (x : SS) (U : Tb) (a : SAct) : Tb :=
  if a.kind.tmod 6 = 0 ∨ a.kind.tmod 6 = 1 then (if psOk x a.q a.key then hPut U a.key 1 else U) else if a.kind.tmod 6 = 3 then (if isIn x a.key then (hDel U a.key).1 else U) else U
theorem isIn_iff {x : SS} {k : Int} : isIn x k = true ↔ nodeI x.T k ≠ 0 := by unfold isIn; simp
section
variable {x : SS} {m : Nat} {U : Tb}
theorem SB.act (b : SB x m) (hm : m ≤ 900) (tw : Twin x.T U) (a : SAct) (ha : a.Fits) : SB (stDo x a).1 (max m (tot (stDo x a).1.ls)) ∧ tot (stDo x a).1.ls ≤ tot x.ls + 1 ∧ Twin (stDo x a).1.T (doU x U a) := by
  have o := b.ok hm
  have push : ∀ f : Bool, SB (if f then psfS x a.q a.key else psbS x a.q a.key) (max m (tot (if f then psfS x a.q a.key else psbS x a.q a.key).ls)) ∧ tot (if f then psfS x a.q a.key else psbS x a.q a.key).ls ≤ tot x.ls + 1 ∧ Twin (if f then psfS x a.q a.key else psbS x a.q a.key).T (if psOk x a.q a.key then hPut U a.key 1 else U) := fun f => by
    by_cases hp : psOk x a.q a.key = true
    · obtain ⟨h1, h2⟩ := b.push hm ha.key f hp
      rw [h2, if_pos hp]
      refine ⟨h1, Nat.le_refl _, ?_⟩
      have e : (if f then psfS x a.q a.key else psbS x a.q a.key).T = hPut x.T a.key (raAlloc x.R).2 := by
        cases f
        · rw [if_neg (by simp)]; unfold psbS; rw [if_pos hp]
        · rw [if_pos rfl]; unfold psfS; rw [if_pos hp]
      rw [e]
      exact tw.put b.i.ok o.tl ha.key.1 ha.key.2 _ _
    · have e : (if f then psfS x a.q a.key else psbS x a.q a.key) = x := by
        cases f
        · rw [if_neg (by simp)]; exact if_neg hp
        · rw [if_pos rfl]; exact if_neg hp
      rw [e, if_neg hp]
      exact ⟨b.mono (by omega), by omega, tw⟩
  unfold stDo doU
  by_cases k0 : a.kind.tmod 6 = 0
  · rw [if_pos k0, if_pos (.inl k0)]
    exact push true
  · by_cases k1 : a.kind.tmod 6 = 1
    · rw [if_neg k0, if_pos k1, if_pos (.inr k1)]
      exact push false
    · have k01 : ¬ (a.kind.tmod 6 = 0 ∨ a.kind.tmod 6 = 1) := by omega
      rw [if_neg k0, if_neg k1, if_neg k01]
      by_cases k2 : a.kind.tmod 6 = 2
      · have k23 : ¬ a.kind.tmod 6 = 3 := by omega
        rw [if_pos k2, if_neg k23]
        obtain ⟨h1, h2⟩ := b.move hm a.q a.key
        refine ⟨h1.mono (by omega), by show tot (movS _ _ _).ls ≤ _; omega, ?_⟩
        have e : (movS x a.q a.key).T = x.T := by unfold movS; split <;> rfl
        show Twin (movS _ _ _).T _
        rw [e]
        exact tw
      · rw [if_neg k2]
        by_cases k3 : a.kind.tmod 6 = 3
        · rw [if_pos k3, if_pos k3]
          obtain ⟨h1, h2⟩ := b.remove hm a.key
          refine ⟨h1.mono (by omega), by show tot (remS _ _).ls ≤ _; omega, ?_⟩
          show Twin (remS _ _).T _
          by_cases hi : nodeI x.T a.key = 0
          · have e : remS x a.key = x := if_pos hi
            rw [e, if_neg (fun h => isIn_iff.1 h hi)]
            exact tw
          · have e : (remS x a.key).T = (hDel x.T a.key).1 := by unfold remS; rw [if_neg hi]
            rw [e, if_pos (isIn_iff.2 hi)]
            exact tw.del b.i.ok _
        · rw [if_neg k3, if_neg k3]
          have setg : ∀ g : Nd → Nd, (∀ y, (g y).key = y.key ∧ (g y).tag = y.tag ∧ (g y).prev = y.prev ∧ (g y).next = y.next) → SB (setS x a.key g) (max m (tot (setS x a.key g).ls)) ∧ tot (setS x a.key g).ls ≤ tot x.ls + 1 ∧ Twin (setS x a.key g).T U := fun g hg => by
            obtain ⟨h1, h2⟩ := b.setg hm a.key hg
            rw [h2]
            refine ⟨h1.mono (by omega), by omega, ?_⟩
            have e : (setS x a.key g).T = x.T := by unfold setS; split <;> rfl
            rw [e]
            exact tw
          split
          · exact setg _ (fun y => ⟨rfl, rfl, rfl, rfl⟩)
          · exact setg _ (fun y => ⟨rfl, rfl, rfl, rfl⟩)
theorem cStDo {H : AH} {n S L r a s ta ts : Nat} {fv : AV} (h : StL H n S L r a s ta ts fv x) (o : SOk x) (y : SAct) (hy : y.Fits) :
    HCalls Try.prog 11 [.ptr S 4 0 0, .agg y.cells] H n fun v H' n' => v = .sc (.bool (stDo x y).2) ∧ StTo H n S L r a s ta ts fv H' n' (stDo x y).1 := by
  have kn := (Keeps.refl H n).upd (x := some (.obj 38 5 [y.cells] false))
  have h1 := h.keeps kn
  have hk := hy.key
  unfold stDo
  by_cases k0 : y.kind.tmod 6 = 0
  · rw [if_pos k0]
    refine HCalls.walk Try.func11 rfl rfl Try.ntmps11 Try.results11 (by simp) ?_; simp (maxSteps := 400000) (dsimp := false) only [k0, axs, AThen, ABlock, dstsOk, AStep, callsF, AWant, aop, AS.ev, AS.put, upd, AS.bound, abin, aint, aload, astore, cellsAt, AV.cells, alen, elems, AV.int?, FPost, aresL, ares1, pack, afill, splice, Value.oneCell', Nat.reduceLT, Nat.reduceLeDiff, Nat.reduceEqDiff, Nat.reduceAdd, Nat.reduceMul, Nat.reduceSub, Nat.reduceBEq, Int.reduceLE, Int.reduceLT, Int.reduceToNat, Int.reduceNeg, Int.reduceEq, axt, ftK, ft3, pickP, AScope, AAll, pickQ, ftQ, inHeap, SAct.cells, tys]
    refine ACallK.heap _ rfl (cStPFront h1 o y.q hk) ?_
    rintro v H2 n2 ⟨rfl, to⟩
    simp (maxSteps := 400000) (dsimp := false) only [axs, AThen, ABlock, dstsOk, AStep, callsF, AWant, aop, AS.ev, AS.put, upd, AS.bound, abin, aint, aload, astore, cellsAt, AV.cells, alen, elems, AV.int?, FPost, aresL, ares1, pack, afill, splice, Value.oneCell', Nat.reduceLT, Nat.reduceLeDiff, Nat.reduceEqDiff, Nat.reduceAdd, Nat.reduceMul, Nat.reduceSub, Nat.reduceBEq, Int.reduceLE, Int.reduceLT, Int.reduceToNat, Int.reduceNeg, Int.reduceEq, axt, ftK, ft3, pickP, AScope, AAll, pickQ, ftQ, inHeap, SAct.cells, tys]
    exact ⟨_, rfl, rfl, StTo.after kn to⟩
  · rw [if_neg k0]
    by_cases k1 : y.kind.tmod 6 = 1
    · rw [if_pos k1]
      have z0 : ¬ (1 : Int) = 0 := by omega
      refine HCalls.walk Try.func11 rfl rfl Try.ntmps11 Try.results11 (by simp) ?_; simp (maxSteps := 400000) (dsimp := false) only [k1, z0, axs, AThen, ABlock, dstsOk, AStep, callsF, AWant, aop, AS.ev, AS.put, upd, AS.bound, abin, aint, aload, astore, cellsAt, AV.cells, alen, elems, AV.int?, FPost, aresL, ares1, pack, afill, splice, Value.oneCell', Nat.reduceLT, Nat.reduceLeDiff, Nat.reduceEqDiff, Nat.reduceAdd, Nat.reduceMul, Nat.reduceSub, Nat.reduceBEq, Int.reduceLE, Int.reduceLT, Int.reduceToNat, Int.reduceNeg, Int.reduceEq, axt, ftK, ft3, pickP, AScope, AAll, pickQ, ftQ, inHeap, SAct.cells, tys]
      refine ACallK.heap _ rfl (cStPBack h1 o y.q hk) ?_
      rintro v H2 n2 ⟨rfl, to⟩
      simp (maxSteps := 400000) (dsimp := false) only [axs, AThen, ABlock, dstsOk, AStep, callsF, AWant, aop, AS.ev, AS.put, upd, AS.bound, abin, aint, aload, astore, cellsAt, AV.cells, alen, elems, AV.int?, FPost, aresL, ares1, pack, afill, splice, Value.oneCell', Nat.reduceLT, Nat.reduceLeDiff, Nat.reduceEqDiff, Nat.reduceAdd, Nat.reduceMul, Nat.reduceSub, Nat.reduceBEq, Int.reduceLE, Int.reduceLT, Int.reduceToNat, Int.reduceNeg, Int.reduceEq, axt, ftK, ft3, pickP, AScope, AAll, pickQ, ftQ, inHeap, SAct.cells, tys]
      exact ⟨_, rfl, rfl, StTo.after kn to⟩
    · rw [if_neg k1]
      by_cases k2 : y.kind.tmod 6 = 2
      · rw [if_pos k2]
        have z0 : ¬ (2 : Int) = 0 := by omega
        have z1 : ¬ (2 : Int) = 1 := by omega
        refine HCalls.walk Try.func11 rfl rfl Try.ntmps11 Try.results11 (by simp) ?_; simp (maxSteps := 400000) (dsimp := false) only [k2, z0, z1, axs, AThen, ABlock, dstsOk, AStep, callsF, AWant, aop, AS.ev, AS.put, upd, AS.bound, abin, aint, aload, astore, cellsAt, AV.cells, alen, elems, AV.int?, FPost, aresL, ares1, pack, afill, splice, Value.oneCell', Nat.reduceLT, Nat.reduceLeDiff, Nat.reduceEqDiff, Nat.reduceAdd, Nat.reduceMul, Nat.reduceSub, Nat.reduceBEq, Int.reduceLE, Int.reduceLT, Int.reduceToNat, Int.reduceNeg, Int.reduceEq, axt, ftK, ft3, pickP, AScope, AAll, pickQ, ftQ, inHeap, SAct.cells, tys]
        refine ACallK.heap _ rfl (cStMove h1 o y.q hk) ?_
        rintro v H2 n2 ⟨rfl, to⟩
        simp (maxSteps := 400000) (dsimp := false) only [axs, AThen, ABlock, dstsOk, AStep, callsF, AWant, aop, AS.ev, AS.put, upd, AS.bound, abin, aint, aload, astore, cellsAt, AV.cells, alen, elems, AV.int?, FPost, aresL, ares1, pack, afill, splice, Value.oneCell', Nat.reduceLT, Nat.reduceLeDiff, Nat.reduceEqDiff, Nat.reduceAdd, Nat.reduceMul, Nat.reduceSub, Nat.reduceBEq, Int.reduceLE, Int.reduceLT, Int.reduceToNat, Int.reduceNeg, Int.reduceEq, axt, ftK, ft3, pickP, AScope, AAll, pickQ, ftQ, inHeap, SAct.cells, tys]
        exact ⟨_, rfl, rfl, StTo.after kn to⟩
      · rw [if_neg k2]
        by_cases k3 : y.kind.tmod 6 = 3
        · rw [if_pos k3]
          have z0 : ¬ (3 : Int) = 0 := by omega
          have z1 : ¬ (3 : Int) = 1 := by omega
          have z2 : ¬ (3 : Int) = 2 := by omega
          refine HCalls.walk Try.func11 rfl rfl Try.ntmps11 Try.results11 (by simp) ?_; simp (maxSteps := 400000) (dsimp := false) only [k3, z0, z1, z2, axs, AThen, ABlock, dstsOk, AStep, callsF, AWant, aop, AS.ev, AS.put, upd, AS.bound, abin, aint, aload, astore, cellsAt, AV.cells, alen, elems, AV.int?, FPost, aresL, ares1, pack, afill, splice, Value.oneCell', Nat.reduceLT, Nat.reduceLeDiff, Nat.reduceEqDiff, Nat.reduceAdd, Nat.reduceMul, Nat.reduceSub, Nat.reduceBEq, Int.reduceLE, Int.reduceLT, Int.reduceToNat, Int.reduceNeg, Int.reduceEq, axt, ftK, ft3, pickP, AScope, AAll, pickQ, ftQ, inHeap, SAct.cells, tys]
          refine ACallK.heap _ rfl (cStRemove h1 o hk) ?_
          rintro v H2 n2 ⟨rfl, to⟩
          simp (maxSteps := 400000) (dsimp := false) only [axs, AThen, ABlock, dstsOk, AStep, callsF, AWant, aop, AS.ev, AS.put, upd, AS.bound, abin, aint, aload, astore, cellsAt, AV.cells, alen, elems, AV.int?, FPost, aresL, ares1, pack, afill, splice, Value.oneCell', Nat.reduceLT, Nat.reduceLeDiff, Nat.reduceEqDiff, Nat.reduceAdd, Nat.reduceMul, Nat.reduceSub, Nat.reduceBEq, Int.reduceLE, Int.reduceLT, Int.reduceToNat, Int.reduceNeg, Int.reduceEq, axt, ftK, ft3, pickP, AScope, AAll, pickQ, ftQ, inHeap, SAct.cells, tys]
          exact ⟨_, rfl, rfl, StTo.after kn to⟩
        · rw [if_neg k3]
          by_cases k4 : y.kind.tmod 6 = 4
          · rw [if_pos k4]
            have z0 : ¬ (4 : Int) = 0 := by omega
            have z1 : ¬ (4 : Int) = 1 := by omega
            have z2 : ¬ (4 : Int) = 2 := by omega
            have z3 : ¬ (4 : Int) = 3 := by omega
            refine HCalls.walk Try.func11 rfl rfl Try.ntmps11 Try.results11 (by simp) ?_; simp (maxSteps := 400000) (dsimp := false) only [k4, z0, z1, z2, z3, axs, AThen, ABlock, dstsOk, AStep, callsF, AWant, aop, AS.ev, AS.put, upd, AS.bound, abin, aint, aload, astore, cellsAt, AV.cells, alen, elems, AV.int?, FPost, aresL, ares1, pack, afill, splice, Value.oneCell', Nat.reduceLT, Nat.reduceLeDiff, Nat.reduceEqDiff, Nat.reduceAdd, Nat.reduceMul, Nat.reduceSub, Nat.reduceBEq, Int.reduceLE, Int.reduceLT, Int.reduceToNat, Int.reduceNeg, Int.reduceEq, axt, ftK, ft3, pickP, AScope, AAll, pickQ, ftQ, inHeap, SAct.cells, tys]
            refine ACallK.heap _ rfl (cStSetVal h1 o hk y.val) ?_
            rintro v H2 n2 ⟨rfl, to⟩
            simp (maxSteps := 400000) (dsimp := false) only [axs, AThen, ABlock, dstsOk, AStep, callsF, AWant, aop, AS.ev, AS.put, upd, AS.bound, abin, aint, aload, astore, cellsAt, AV.cells, alen, elems, AV.int?, FPost, aresL, ares1, pack, afill, splice, Value.oneCell', Nat.reduceLT, Nat.reduceLeDiff, Nat.reduceEqDiff, Nat.reduceAdd, Nat.reduceMul, Nat.reduceSub, Nat.reduceBEq, Int.reduceLE, Int.reduceLT, Int.reduceToNat, Int.reduceNeg, Int.reduceEq, axt, ftK, ft3, pickP, AScope, AAll, pickQ, ftQ, inHeap, SAct.cells, tys]
            exact ⟨_, rfl, rfl, StTo.after kn to⟩
          · rw [if_neg k4]
            refine HCalls.walk Try.func11 rfl rfl Try.ntmps11 Try.results11 (by simp) ?_; simp (maxSteps := 400000) (dsimp := false) only [k0, k1, k2, k3, k4, axs, AThen, ABlock, dstsOk, AStep, callsF, AWant, aop, AS.ev, AS.put, upd, AS.bound, abin, aint, aload, astore, cellsAt, AV.cells, alen, elems, AV.int?, FPost, aresL, ares1, pack, afill, splice, Value.oneCell', Nat.reduceLT, Nat.reduceLeDiff, Nat.reduceEqDiff, Nat.reduceAdd, Nat.reduceMul, Nat.reduceSub, Nat.reduceBEq, Int.reduceLE, Int.reduceLT, Int.reduceToNat, Int.reduceNeg, Int.reduceEq, axt, ftK, ft3, pickP, AScope, AAll, pickQ, ftQ, inHeap, SAct.cells, tys]
            refine ACallK.heap _ rfl (cStSetFlag h1 o hk y.flag) ?_
            rintro v H2 n2 ⟨rfl, to⟩
            simp (maxSteps := 400000) (dsimp := false) only [axs, AThen, ABlock, dstsOk, AStep, callsF, AWant, aop, AS.ev, AS.put, upd, AS.bound, abin, aint, aload, astore, cellsAt, AV.cells, alen, elems, AV.int?, FPost, aresL, ares1, pack, afill, splice, Value.oneCell', Nat.reduceLT, Nat.reduceLeDiff, Nat.reduceEqDiff, Nat.reduceAdd, Nat.reduceMul, Nat.reduceSub, Nat.reduceBEq, Int.reduceLE, Int.reduceLT, Int.reduceToNat, Int.reduceNeg, Int.reduceEq, axt, ftK, ft3, pickP, AScope, AAll, pickQ, ftQ, inHeap, SAct.cells, tys]
            exact ⟨_, rfl, rfl, StTo.after kn to⟩
end
end Go.Al
end
section
set_option linter.unusedVariables false
set_option linter.unusedSimpArgs false
set_option maxRecDepth 20000
set_option maxHeartbeats 6400000
-- axs, AThen, ABlock, dstsOk, AStep, callsF, AWant, aop, AS.ev, AS.put, upd, AS.bound, abin, aint, aload, astore, cellsAt, AV.cells, alen, elems, AV.int?, FPost, aresL, ares1, pack, afill, splice, Value.oneCell', Nat.reduceLT, Nat.reduceLeDiff, Nat.reduceEqDiff, Nat.reduceAdd, Nat.reduceMul, Nat.reduceSub, Nat.reduceBEq, Int.reduceLE, Int.reduceLT, Int.reduceToNat, Int.reduceNeg, Int.reduceEq, axt, ftK, ft3, pickP, AScope, AAll, pickQ, ftQ, inHeap, SAct.cells, tys: SAct.cells
-- NOIDS: noIdsE_EN, noIdsE_LE, noIdsE_TL, noIdsE_U
-- LENS: EN_len, LE_len, TL_len, U_len
namespace Go.Al
open Go.Proofs
theorem totE_ents (x : SS) : totE (ents x) = tot x.ls := by
  unfold totE ents tot
  rw [List.map_map]
  congr 1
  exact List.map_congr_left fun l _ => List.length_map _
section
variable {x : SS} {m : Nat} {U : Tb} {k q : Int}
theorem SInv.thereE (h : SInv x.R x.rows x.ls x.T) (k : Int) : plQ x k < (ents x).length ↔ nodeI x.T k ≠ 0 := by rw [ents_len]; exact h.there k
theorem psOk_iff : psOk x q k = true ↔ (0 ≤ q ∧ q < x.rows.length) ∧ nodeI x.T k = 0 := by unfold psOk; simp
theorem act_push (b : SB x m) (hm : m ≤ 900) (f : Bool) (hp : psOk x q k = true) : ents (if f then psfS x q k else psbS x q k) = pshE (ents x) q.toNat ⟨k, 0, 0⟩ f ∧ (if f then psfS x q k else psbS x q k).R.len = (if (totE (ents x) : Int) + 2 > x.R.len then 2 * x.R.len else x.R.len) := by
  obtain ⟨_, _, _, _, c5⟩ := pshR_cnt b.i.inv.ok k b.lv b.ev b.ln b.l8
  have hps := (pshR_all b.i.inv.ok k).1
  rw [totE_ents]
  cases f
  · rw [if_neg (by simp)]
    have e : psbS x q k = ⟨_, _, _, _⟩ := if_pos hp
    have sm := Same.layS hps x.rows q (backR x.rows q) (raAlloc x.R).2 0
    rw [e]
    exact ⟨ents_push b.i q false sm, sm.len.trans c5⟩
  · rw [if_pos rfl]
    have e : psfS x q k = ⟨_, _, _, _⟩ := if_pos hp
    have sm := Same.layS hps x.rows q 0 (raAlloc x.R).2 (frontR x.rows q)
    rw [e]
    exact ⟨ents_push b.i q true sm, sm.len.trans c5⟩
theorem act_move (b : SB x m) (hm : m ≤ 900) (hq : 0 ≤ q ∧ q < x.rows.length) (h0 : nodeI x.T k ≠ 0) : movOk x q k = true ∧ ents (movS x q k) = movE (ents x) q.toNat (plQ x k) (plI x k) ∧ (movS x q k).R.len = x.R.len := by
  obtain ⟨l1, l2, l3⟩ := (b.ok hm).live h0
  have sm := Same.mvS b.i.inv.ok x.rows q (nodeI x.T k) (b.i.inv.offL (nodeI x.T k)).1.ok
  refine ⟨by unfold movOk; rw [isIn_iff.2 h0, (b.i.move hq l1).2]; rfl, ents_mov b.i h0 hq, ?_⟩
  unfold movS
  rw [if_neg h0]
  exact sm.len
theorem act_moveNo (h : ¬ ((0 ≤ q ∧ q < x.rows.length) ∧ nodeI x.T k ≠ 0)) : movOk x q k = false ∧ ents (movS x q k) = ents x ∧ (movS x q k).R.len = x.R.len := by
  by_cases h0 : nodeI x.T k = 0
  · have e : movS x q k = x := if_pos h0
    rw [e]
    refine ⟨?_, rfl, rfl⟩
    unfold movOk isIn
    rw [h0]; rfl
  · have hq : ¬ (0 ≤ q ∧ q < x.rows.length) := fun hq => h ⟨hq, h0⟩
    have e1 : mvS x.R x.rows q (nodeI x.T k) = (x.R, x.rows) := if_neg hq
    have e2 : mvL x.R x.rows x.ls q (nodeI x.T k) = x.ls := if_neg hq
    have e3 : movS x q k = ⟨x.R, x.rows, x.ls, x.T⟩ := by unfold movS; rw [if_neg h0, e1, e2]
    rw [e3]
    refine ⟨?_, rfl, rfl⟩
    unfold movOk mvOk
    rw [decide_eq_false hq]
    simp
theorem act_rem (b : SB x m) (hm : m ≤ 900) (h0 : nodeI x.T k ≠ 0) : ents (remS x k) = takE (ents x) (plQ x k) (plI x k) ∧ (remS x k).R.len = x.R.len := by
  obtain ⟨l1, l2, l3⟩ := (b.ok hm).live h0
  have sm := Same.offS b.i.inv.ok x.rows (nodeI x.T k)
  have hi2 : raIs (offS x.R x.rows (nodeI x.T k)).1 (nodeI x.T k) = true := by rw [sm.is]; exact l1
  have hf : raFree (offS x.R x.rows (nodeI x.T k)).1 (nodeI x.T k) = (⟨(offS x.R x.rows (nodeI x.T k)).1.len, (offS x.R x.rows (nodeI x.T k)).1.ever, (offS x.R x.rows (nodeI x.T k)).1.freed ++ [nodeI x.T k], (offS x.R x.rows (nodeI x.T k)).1.nodes⟩, true) := if_pos hi2
  refine ⟨ents_rem b.i h0, ?_⟩
  unfold remS
  rw [if_neg h0, hf]
  exact sm.len
theorem act_set (g : Nd → Nd) : (setS x k g).R.len = x.R.len := by
  unfold setS
  split
  · rfl
  · show (raSet _ _ _).1.len = _
    unfold raSet
    split <;> rfl
theorem rDo (b : SB x m) (hm : m ≤ 900) (tw : Twin x.T U) (y : SAct) (hy : y.Fits) :
    PCalls Try.prog 12 [SV (ents x) x.R.len U, .agg y.cells] (.tup [SV (ents (stDo x y).1) (stDo x y).1.R.len (doU x U y), .sc (.bool (stDo x y).2)]) := by
  have o := b.ok hm
  have F := b.i.first y.key
  have w := o.few
  have hth := b.i.thereE y.key
  have hlen : (x.rows.length : Int) = (ents x).length := by rw [ents_len, b.i.inv.len]
  have hul : U.length ≤ 524288 := by rw [tw.len]; exact o.tl
  have hN : 0 ≤ x.R.len ∧ x.R.len ≤ 100000 := ⟨by have := b.l8; omega, o.ln⟩
  have cF : PCalls Try.prog 36 [SV (ents x) x.R.len U, .sc (.int .i64 y.q), .sc (.int .u64 y.key), .sc (.bool true)] (.tup [SV (ents (psfS x y.q y.key)) (psfS x y.q y.key).R.len (if psOk x y.q y.key then hPut U y.key 1 else U), .sc (.bool (psOk x y.q y.key))]) := by
    by_cases hp : psOk x y.q y.key = true
    · obtain ⟨h1, h2⟩ := psOk_iff.1 hp
      obtain ⟨e1, e2⟩ := act_push b hm true hp
      rw [if_pos rfl] at e1 e2
      rw [if_pos hp, hp, e1, e2]
      exact rPushF F w y.q (by rw [← hlen]; exact h1) (fun h => hth.1 h h2) tw.ok hul hy.key hN
    · have e1 : psfS x y.q y.key = x := if_neg hp
      have hp2 : psOk x y.q y.key = false := by simpa using hp
      rw [e1, if_neg hp, hp2]
      exact rPushNo F w y.q true (fun h => hp (psOk_iff.2 ⟨by rw [hlen]; exact h.1, Classical.byContradiction fun h3 => h.2 (hth.2 h3)⟩))
  have cB : PCalls Try.prog 36 [SV (ents x) x.R.len U, .sc (.int .i64 y.q), .sc (.int .u64 y.key), .sc (.bool false)] (.tup [SV (ents (psbS x y.q y.key)) (psbS x y.q y.key).R.len (if psOk x y.q y.key then hPut U y.key 1 else U), .sc (.bool (psOk x y.q y.key))]) := by
    by_cases hp : psOk x y.q y.key = true
    · obtain ⟨h1, h2⟩ := psOk_iff.1 hp
      obtain ⟨e1, e2⟩ := act_push b hm false hp
      rw [if_neg (by simp)] at e1 e2
      rw [if_pos hp, hp, e1, e2]
      exact rPushB F w y.q (by rw [← hlen]; exact h1) (fun h => hth.1 h h2) tw.ok hul hy.key hN
    · have e1 : psbS x y.q y.key = x := if_neg hp
      have hp2 : psOk x y.q y.key = false := by simpa using hp
      rw [e1, if_neg hp, hp2]
      exact rPushNo F w y.q false (fun h => hp (psOk_iff.2 ⟨by rw [hlen]; exact h.1, Classical.byContradiction fun h3 => h.2 (hth.2 h3)⟩))
  have cM : PCalls Try.prog 37 [SV (ents x) x.R.len U, .sc (.int .i64 y.q), .sc (.int .u64 y.key)] (.tup [SV (ents (movS x y.q y.key)) (movS x y.q y.key).R.len U, .sc (.bool (movOk x y.q y.key))]) := by
    by_cases h : (0 ≤ y.q ∧ y.q < x.rows.length) ∧ nodeI x.T y.key ≠ 0
    · obtain ⟨e1, e2, e3⟩ := act_move b hm h.1 h.2
      rw [e1, e2, e3]
      exact rMoveYes F w y.q (by rw [← hlen]; exact h.1) (hth.2 h.2)
    · obtain ⟨e1, e2, e3⟩ := act_moveNo h
      rw [e1, e2, e3]
      exact rMoveNo F w y.q (fun h2 => h ⟨by rw [hlen]; exact h2.1, hth.1 h2.2⟩)
  have cR : PCalls Try.prog 38 [SV (ents x) x.R.len U, .sc (.int .u64 y.key)] (.tup [SV (ents (remS x y.key)) (remS x y.key).R.len (if isIn x y.key then (hDel U y.key).1 else U), .sc (.bool (isIn x y.key))]) := by
    have c := rRemoveL (N := x.R.len) F w tw.ok hy.key
    by_cases h0 : nodeI x.T y.key = 0
    · have hQ : ¬ plQ x y.key < (ents x).length := fun h => hth.1 h h0
      have hin : isIn x y.key = false := by unfold isIn; rw [h0]; rfl
      have e : remS x y.key = x := if_pos h0
      rw [if_neg hQ, if_neg hQ, decide_eq_false hQ] at c
      rw [e, hin]
      exact c
    · have hQ := hth.2 h0
      obtain ⟨e1, e2⟩ := act_rem b hm h0
      rw [if_pos hQ, if_pos hQ, decide_eq_true hQ] at c
      rw [e1, e2, isIn_iff.2 h0]
      exact c
  have cS : ∀ (f : Bool) (g : Nd → Nd), (∀ nd : Nd, (⟨(g nd).key, (g nd).val, (g nd).flag⟩ : Ent) = (if f then ⟨nd.key, nd.val, y.flag⟩ else ⟨nd.key, y.val, nd.flag⟩)) → PCalls Try.prog 39 [SV (ents x) x.R.len U, .agg (Ent.mk y.key y.val y.flag).cells, .sc (.bool f)] (.tup [SV (ents (setS x y.key g)) (setS x y.key g).R.len U, .sc (.bool (isIn x y.key))]) := fun f g hg => by
    have c := rSetL (N := x.R.len) (T := U) (Ent.mk y.key y.val y.flag) F w f
    rw [act_set]
    by_cases h0 : nodeI x.T y.key = 0
    · have hQ : ¬ plQ x y.key < (ents x).length := fun h => hth.1 h h0
      have hin : isIn x y.key = false := by unfold isIn; rw [h0]; rfl
      have e : setS x y.key g = x := if_pos h0
      rw [if_neg hQ, decide_eq_false hQ] at c
      rw [e, hin]
      exact c
    · have hQ := hth.2 h0
      rw [if_pos hQ, decide_eq_true hQ, gete_at b.i h0] at c
      rw [ents_set b.i h0, isIn_iff.2 h0, hg]
      exact c
  unfold stDo doU
  by_cases k0 : y.kind.tmod 6 = 0
  · rw [if_pos k0, if_pos (.inl k0)]
    unfold SV at *
    refine PCalls.intro2 Try.func12 rfl rfl Try.ntmps12 Try.results12 (by simp) fun n => ?_; simp (maxSteps := 400000) (dsimp := false) only [k0, axs, AThen, ABlock, dstsOk, AStep, callsF, AWant, aop, AS.ev, AS.put, upd, AS.bound, abin, aint, aload, astore, cellsAt, AV.cells, alen, elems, AV.int?, FPost, aresL, ares1, pack, afill, splice, Value.oneCell', Nat.reduceLT, Nat.reduceLeDiff, Nat.reduceEqDiff, Nat.reduceAdd, Nat.reduceMul, Nat.reduceSub, Nat.reduceBEq, Int.reduceLE, Int.reduceLT, Int.reduceToNat, Int.reduceNeg, Int.reduceEq, axt, ftK, ft3, pickP, AScope, AAll, pickQ, ftQ, inHeap, SAct.cells, tys]
    refine ACallK.strict rfl (cF) (by simp only [SeesL, axs, axt, AS.ev, AS.put, upd, inHeap, Nat.reduceLT, Nat.reduceEqDiff, Nat.reduceAdd, Nat.reduceBEq, SAct.cells]; repeat' (first | exact True.intro | exact Sees.sc | exact Sees.none | ((with_reducible refine Sees.same ?_) <;> simp [noIds, noIdsL, noIdsE, noIdsE_U, noIdsE_UU, noIdsE_EN, noIdsE_LE, noIdsE_TL, noIdsE_U] <;> fail) | (refine Live.sees ?_ ?_ <;> first | assumption | (simp [noIdsE_U, noIdsE_UU, noIdsE_EN, noIdsE_LE, noIdsE_TL, noIdsE_U] <;> fail)) | (refine Sees.obj ?_ ?_ ?_ <;> first | exact ⟨_, _, by assumption, rfl⟩ | (simp [U_len, UU_len, EN_len, LE_len, TL_len, U_len] <;> fail) | (simp [noIdsE_U, noIdsE_UU, noIdsE_EN, noIdsE_LE, noIdsE_TL, noIdsE_U] <;> fail) | (simp [U, UU, upd] <;> fail) | (simp [U, UU, upd, neS, *] <;> fail)) | (refine Sees.of_seen 3 ?_ <;> simp [seen, upd, noIdsE, noIdsL, noIds, U, UU, Nat.add_assoc] <;> fail) | refine Sees.agg ?_ | refine And.intro ?_ ?_ | simp only [SeesL])) ?_; simp (maxSteps := 400000) (dsimp := false) only [axs, AThen, ABlock, dstsOk, AStep, callsF, AWant, aop, AS.ev, AS.put, upd, AS.bound, abin, aint, aload, astore, cellsAt, AV.cells, alen, elems, AV.int?, FPost, aresL, ares1, pack, afill, splice, Value.oneCell', Nat.reduceLT, Nat.reduceLeDiff, Nat.reduceEqDiff, Nat.reduceAdd, Nat.reduceMul, Nat.reduceSub, Nat.reduceBEq, Int.reduceLE, Int.reduceLT, Int.reduceToNat, Int.reduceNeg, Int.reduceEq, axt, ftK, ft3, pickP, AScope, AAll, pickQ, ftQ, inHeap, SAct.cells, tys]
    refine ⟨_, rfl, ?_⟩; simp (maxSteps := 400000) (dsimp := false) only [SeesL, axs, AThen, ABlock, dstsOk, AStep, callsF, AWant, aop, AS.ev, AS.put, upd, AS.bound, abin, aint, aload, astore, cellsAt, AV.cells, alen, elems, AV.int?, FPost, aresL, ares1, pack, afill, splice, Value.oneCell', Nat.reduceLT, Nat.reduceLeDiff, Nat.reduceEqDiff, Nat.reduceAdd, Nat.reduceMul, Nat.reduceSub, Nat.reduceBEq, Int.reduceLE, Int.reduceLT, Int.reduceToNat, Int.reduceNeg, Int.reduceEq, axt, ftK, ft3, pickP, AScope, AAll, pickQ, ftQ, inHeap, SAct.cells, tys] <;> repeat' (first | exact True.intro | exact Sees.sc | exact Sees.none | ((with_reducible refine Sees.same ?_) <;> simp [noIds, noIdsL, noIdsE, noIdsE_U, noIdsE_UU, noIdsE_EN, noIdsE_LE, noIdsE_TL, noIdsE_U] <;> fail) | (refine Live.sees ?_ ?_ <;> first | assumption | (simp [noIdsE_U, noIdsE_UU, noIdsE_EN, noIdsE_LE, noIdsE_TL, noIdsE_U] <;> fail)) | (refine Sees.obj ?_ ?_ ?_ <;> first | exact ⟨_, _, by assumption, rfl⟩ | (simp [U_len, UU_len, EN_len, LE_len, TL_len, U_len] <;> fail) | (simp [noIdsE_U, noIdsE_UU, noIdsE_EN, noIdsE_LE, noIdsE_TL, noIdsE_U] <;> fail) | (simp [U, UU, upd, neS] <;> fail) | (simp [U, UU, upd, neS, *] <;> fail)) | refine Sees.agg ?_ | refine Sees.tup ?_ | refine And.intro ?_ ?_ | simp only [SeesL])
  · rw [if_neg k0]
    by_cases k1 : y.kind.tmod 6 = 1
    · have z0 : ¬ (1 : Int) = 0 := by omega
      rw [if_pos k1, if_pos (.inr k1)]
      unfold SV at *
      refine PCalls.intro2 Try.func12 rfl rfl Try.ntmps12 Try.results12 (by simp) fun n => ?_; simp (maxSteps := 400000) (dsimp := false) only [k1, z0, axs, AThen, ABlock, dstsOk, AStep, callsF, AWant, aop, AS.ev, AS.put, upd, AS.bound, abin, aint, aload, astore, cellsAt, AV.cells, alen, elems, AV.int?, FPost, aresL, ares1, pack, afill, splice, Value.oneCell', Nat.reduceLT, Nat.reduceLeDiff, Nat.reduceEqDiff, Nat.reduceAdd, Nat.reduceMul, Nat.reduceSub, Nat.reduceBEq, Int.reduceLE, Int.reduceLT, Int.reduceToNat, Int.reduceNeg, Int.reduceEq, axt, ftK, ft3, pickP, AScope, AAll, pickQ, ftQ, inHeap, SAct.cells, tys]
      refine ACallK.strict rfl (cB) (by simp only [SeesL, axs, axt, AS.ev, AS.put, upd, inHeap, Nat.reduceLT, Nat.reduceEqDiff, Nat.reduceAdd, Nat.reduceBEq, SAct.cells]; repeat' (first | exact True.intro | exact Sees.sc | exact Sees.none | ((with_reducible refine Sees.same ?_) <;> simp [noIds, noIdsL, noIdsE, noIdsE_U, noIdsE_UU, noIdsE_EN, noIdsE_LE, noIdsE_TL, noIdsE_U] <;> fail) | (refine Live.sees ?_ ?_ <;> first | assumption | (simp [noIdsE_U, noIdsE_UU, noIdsE_EN, noIdsE_LE, noIdsE_TL, noIdsE_U] <;> fail)) | (refine Sees.obj ?_ ?_ ?_ <;> first | exact ⟨_, _, by assumption, rfl⟩ | (simp [U_len, UU_len, EN_len, LE_len, TL_len, U_len] <;> fail) | (simp [noIdsE_U, noIdsE_UU, noIdsE_EN, noIdsE_LE, noIdsE_TL, noIdsE_U] <;> fail) | (simp [U, UU, upd] <;> fail) | (simp [U, UU, upd, neS, *] <;> fail)) | (refine Sees.of_seen 3 ?_ <;> simp [seen, upd, noIdsE, noIdsL, noIds, U, UU, Nat.add_assoc] <;> fail) | refine Sees.agg ?_ | refine And.intro ?_ ?_ | simp only [SeesL])) ?_; simp (maxSteps := 400000) (dsimp := false) only [axs, AThen, ABlock, dstsOk, AStep, callsF, AWant, aop, AS.ev, AS.put, upd, AS.bound, abin, aint, aload, astore, cellsAt, AV.cells, alen, elems, AV.int?, FPost, aresL, ares1, pack, afill, splice, Value.oneCell', Nat.reduceLT, Nat.reduceLeDiff, Nat.reduceEqDiff, Nat.reduceAdd, Nat.reduceMul, Nat.reduceSub, Nat.reduceBEq, Int.reduceLE, Int.reduceLT, Int.reduceToNat, Int.reduceNeg, Int.reduceEq, axt, ftK, ft3, pickP, AScope, AAll, pickQ, ftQ, inHeap, SAct.cells, tys]
      refine ⟨_, rfl, ?_⟩; simp (maxSteps := 400000) (dsimp := false) only [SeesL, axs, AThen, ABlock, dstsOk, AStep, callsF, AWant, aop, AS.ev, AS.put, upd, AS.bound, abin, aint, aload, astore, cellsAt, AV.cells, alen, elems, AV.int?, FPost, aresL, ares1, pack, afill, splice, Value.oneCell', Nat.reduceLT, Nat.reduceLeDiff, Nat.reduceEqDiff, Nat.reduceAdd, Nat.reduceMul, Nat.reduceSub, Nat.reduceBEq, Int.reduceLE, Int.reduceLT, Int.reduceToNat, Int.reduceNeg, Int.reduceEq, axt, ftK, ft3, pickP, AScope, AAll, pickQ, ftQ, inHeap, SAct.cells, tys] <;> repeat' (first | exact True.intro | exact Sees.sc | exact Sees.none | ((with_reducible refine Sees.same ?_) <;> simp [noIds, noIdsL, noIdsE, noIdsE_U, noIdsE_UU, noIdsE_EN, noIdsE_LE, noIdsE_TL, noIdsE_U] <;> fail) | (refine Live.sees ?_ ?_ <;> first | assumption | (simp [noIdsE_U, noIdsE_UU, noIdsE_EN, noIdsE_LE, noIdsE_TL, noIdsE_U] <;> fail)) | (refine Sees.obj ?_ ?_ ?_ <;> first | exact ⟨_, _, by assumption, rfl⟩ | (simp [U_len, UU_len, EN_len, LE_len, TL_len, U_len] <;> fail) | (simp [noIdsE_U, noIdsE_UU, noIdsE_EN, noIdsE_LE, noIdsE_TL, noIdsE_U] <;> fail) | (simp [U, UU, upd, neS] <;> fail) | (simp [U, UU, upd, neS, *] <;> fail)) | refine Sees.agg ?_ | refine Sees.tup ?_ | refine And.intro ?_ ?_ | simp only [SeesL])
    · have k01 : ¬ (y.kind.tmod 6 = 0 ∨ y.kind.tmod 6 = 1) := by omega
      rw [if_neg k1, if_neg k01]
      by_cases k2 : y.kind.tmod 6 = 2
      · have k23 : ¬ y.kind.tmod 6 = 3 := by omega
        have z0 : ¬ (2 : Int) = 0 := by omega
        have z1 : ¬ (2 : Int) = 1 := by omega
        rw [if_pos k2, if_neg k23]
        unfold SV at *
        refine PCalls.intro2 Try.func12 rfl rfl Try.ntmps12 Try.results12 (by simp) fun n => ?_; simp (maxSteps := 400000) (dsimp := false) only [k2, z0, z1, axs, AThen, ABlock, dstsOk, AStep, callsF, AWant, aop, AS.ev, AS.put, upd, AS.bound, abin, aint, aload, astore, cellsAt, AV.cells, alen, elems, AV.int?, FPost, aresL, ares1, pack, afill, splice, Value.oneCell', Nat.reduceLT, Nat.reduceLeDiff, Nat.reduceEqDiff, Nat.reduceAdd, Nat.reduceMul, Nat.reduceSub, Nat.reduceBEq, Int.reduceLE, Int.reduceLT, Int.reduceToNat, Int.reduceNeg, Int.reduceEq, axt, ftK, ft3, pickP, AScope, AAll, pickQ, ftQ, inHeap, SAct.cells, tys]
        refine ACallK.strict rfl (cM) (by simp only [SeesL, axs, axt, AS.ev, AS.put, upd, inHeap, Nat.reduceLT, Nat.reduceEqDiff, Nat.reduceAdd, Nat.reduceBEq, SAct.cells]; repeat' (first | exact True.intro | exact Sees.sc | exact Sees.none | ((with_reducible refine Sees.same ?_) <;> simp [noIds, noIdsL, noIdsE, noIdsE_U, noIdsE_UU, noIdsE_EN, noIdsE_LE, noIdsE_TL, noIdsE_U] <;> fail) | (refine Live.sees ?_ ?_ <;> first | assumption | (simp [noIdsE_U, noIdsE_UU, noIdsE_EN, noIdsE_LE, noIdsE_TL, noIdsE_U] <;> fail)) | (refine Sees.obj ?_ ?_ ?_ <;> first | exact ⟨_, _, by assumption, rfl⟩ | (simp [U_len, UU_len, EN_len, LE_len, TL_len, U_len] <;> fail) | (simp [noIdsE_U, noIdsE_UU, noIdsE_EN, noIdsE_LE, noIdsE_TL, noIdsE_U] <;> fail) | (simp [U, UU, upd] <;> fail) | (simp [U, UU, upd, neS, *] <;> fail)) | (refine Sees.of_seen 3 ?_ <;> simp [seen, upd, noIdsE, noIdsL, noIds, U, UU, Nat.add_assoc] <;> fail) | refine Sees.agg ?_ | refine And.intro ?_ ?_ | simp only [SeesL])) ?_; simp (maxSteps := 400000) (dsimp := false) only [axs, AThen, ABlock, dstsOk, AStep, callsF, AWant, aop, AS.ev, AS.put, upd, AS.bound, abin, aint, aload, astore, cellsAt, AV.cells, alen, elems, AV.int?, FPost, aresL, ares1, pack, afill, splice, Value.oneCell', Nat.reduceLT, Nat.reduceLeDiff, Nat.reduceEqDiff, Nat.reduceAdd, Nat.reduceMul, Nat.reduceSub, Nat.reduceBEq, Int.reduceLE, Int.reduceLT, Int.reduceToNat, Int.reduceNeg, Int.reduceEq, axt, ftK, ft3, pickP, AScope, AAll, pickQ, ftQ, inHeap, SAct.cells, tys]
        refine ⟨_, rfl, ?_⟩; simp (maxSteps := 400000) (dsimp := false) only [SeesL, axs, AThen, ABlock, dstsOk, AStep, callsF, AWant, aop, AS.ev, AS.put, upd, AS.bound, abin, aint, aload, astore, cellsAt, AV.cells, alen, elems, AV.int?, FPost, aresL, ares1, pack, afill, splice, Value.oneCell', Nat.reduceLT, Nat.reduceLeDiff, Nat.reduceEqDiff, Nat.reduceAdd, Nat.reduceMul, Nat.reduceSub, Nat.reduceBEq, Int.reduceLE, Int.reduceLT, Int.reduceToNat, Int.reduceNeg, Int.reduceEq, axt, ftK, ft3, pickP, AScope, AAll, pickQ, ftQ, inHeap, SAct.cells, tys] <;> repeat' (first | exact True.intro | exact Sees.sc | exact Sees.none | ((with_reducible refine Sees.same ?_) <;> simp [noIds, noIdsL, noIdsE, noIdsE_U, noIdsE_UU, noIdsE_EN, noIdsE_LE, noIdsE_TL, noIdsE_U] <;> fail) | (refine Live.sees ?_ ?_ <;> first | assumption | (simp [noIdsE_U, noIdsE_UU, noIdsE_EN, noIdsE_LE, noIdsE_TL, noIdsE_U] <;> fail)) | (refine Sees.obj ?_ ?_ ?_ <;> first | exact ⟨_, _, by assumption, rfl⟩ | (simp [U_len, UU_len, EN_len, LE_len, TL_len, U_len] <;> fail) | (simp [noIdsE_U, noIdsE_UU, noIdsE_EN, noIdsE_LE, noIdsE_TL, noIdsE_U] <;> fail) | (simp [U, UU, upd, neS] <;> fail) | (simp [U, UU, upd, neS, *] <;> fail)) | refine Sees.agg ?_ | refine Sees.tup ?_ | refine And.intro ?_ ?_ | simp only [SeesL])
      · rw [if_neg k2]
        by_cases k3 : y.kind.tmod 6 = 3
        · have z0 : ¬ (3 : Int) = 0 := by omega
          have z1 : ¬ (3 : Int) = 1 := by omega
          have z2 : ¬ (3 : Int) = 2 := by omega
          rw [if_pos k3, if_pos k3]
          unfold SV at *
          refine PCalls.intro2 Try.func12 rfl rfl Try.ntmps12 Try.results12 (by simp) fun n => ?_; simp (maxSteps := 400000) (dsimp := false) only [k3, z0, z1, z2, axs, AThen, ABlock, dstsOk, AStep, callsF, AWant, aop, AS.ev, AS.put, upd, AS.bound, abin, aint, aload, astore, cellsAt, AV.cells, alen, elems, AV.int?, FPost, aresL, ares1, pack, afill, splice, Value.oneCell', Nat.reduceLT, Nat.reduceLeDiff, Nat.reduceEqDiff, Nat.reduceAdd, Nat.reduceMul, Nat.reduceSub, Nat.reduceBEq, Int.reduceLE, Int.reduceLT, Int.reduceToNat, Int.reduceNeg, Int.reduceEq, axt, ftK, ft3, pickP, AScope, AAll, pickQ, ftQ, inHeap, SAct.cells, tys]
          refine ACallK.strict rfl (cR) (by simp only [SeesL, axs, axt, AS.ev, AS.put, upd, inHeap, Nat.reduceLT, Nat.reduceEqDiff, Nat.reduceAdd, Nat.reduceBEq, SAct.cells]; repeat' (first | exact True.intro | exact Sees.sc | exact Sees.none | ((with_reducible refine Sees.same ?_) <;> simp [noIds, noIdsL, noIdsE, noIdsE_U, noIdsE_UU, noIdsE_EN, noIdsE_LE, noIdsE_TL, noIdsE_U] <;> fail) | (refine Live.sees ?_ ?_ <;> first | assumption | (simp [noIdsE_U, noIdsE_UU, noIdsE_EN, noIdsE_LE, noIdsE_TL, noIdsE_U] <;> fail)) | (refine Sees.obj ?_ ?_ ?_ <;> first | exact ⟨_, _, by assumption, rfl⟩ | (simp [U_len, UU_len, EN_len, LE_len, TL_len, U_len] <;> fail) | (simp [noIdsE_U, noIdsE_UU, noIdsE_EN, noIdsE_LE, noIdsE_TL, noIdsE_U] <;> fail) | (simp [U, UU, upd] <;> fail) | (simp [U, UU, upd, neS, *] <;> fail)) | (refine Sees.of_seen 3 ?_ <;> simp [seen, upd, noIdsE, noIdsL, noIds, U, UU, Nat.add_assoc] <;> fail) | refine Sees.agg ?_ | refine And.intro ?_ ?_ | simp only [SeesL])) ?_; simp (maxSteps := 400000) (dsimp := false) only [axs, AThen, ABlock, dstsOk, AStep, callsF, AWant, aop, AS.ev, AS.put, upd, AS.bound, abin, aint, aload, astore, cellsAt, AV.cells, alen, elems, AV.int?, FPost, aresL, ares1, pack, afill, splice, Value.oneCell', Nat.reduceLT, Nat.reduceLeDiff, Nat.reduceEqDiff, Nat.reduceAdd, Nat.reduceMul, Nat.reduceSub, Nat.reduceBEq, Int.reduceLE, Int.reduceLT, Int.reduceToNat, Int.reduceNeg, Int.reduceEq, axt, ftK, ft3, pickP, AScope, AAll, pickQ, ftQ, inHeap, SAct.cells, tys]
          refine ⟨_, rfl, ?_⟩; simp (maxSteps := 400000) (dsimp := false) only [SeesL, axs, AThen, ABlock, dstsOk, AStep, callsF, AWant, aop, AS.ev, AS.put, upd, AS.bound, abin, aint, aload, astore, cellsAt, AV.cells, alen, elems, AV.int?, FPost, aresL, ares1, pack, afill, splice, Value.oneCell', Nat.reduceLT, Nat.reduceLeDiff, Nat.reduceEqDiff, Nat.reduceAdd, Nat.reduceMul, Nat.reduceSub, Nat.reduceBEq, Int.reduceLE, Int.reduceLT, Int.reduceToNat, Int.reduceNeg, Int.reduceEq, axt, ftK, ft3, pickP, AScope, AAll, pickQ, ftQ, inHeap, SAct.cells, tys] <;> repeat' (first | exact True.intro | exact Sees.sc | exact Sees.none | ((with_reducible refine Sees.same ?_) <;> simp [noIds, noIdsL, noIdsE, noIdsE_U, noIdsE_UU, noIdsE_EN, noIdsE_LE, noIdsE_TL, noIdsE_U] <;> fail) | (refine Live.sees ?_ ?_ <;> first | assumption | (simp [noIdsE_U, noIdsE_UU, noIdsE_EN, noIdsE_LE, noIdsE_TL, noIdsE_U] <;> fail)) | (refine Sees.obj ?_ ?_ ?_ <;> first | exact ⟨_, _, by assumption, rfl⟩ | (simp [U_len, UU_len, EN_len, LE_len, TL_len, U_len] <;> fail) | (simp [noIdsE_U, noIdsE_UU, noIdsE_EN, noIdsE_LE, noIdsE_TL, noIdsE_U] <;> fail) | (simp [U, UU, upd, neS] <;> fail) | (simp [U, UU, upd, neS, *] <;> fail)) | refine Sees.agg ?_ | refine Sees.tup ?_ | refine And.intro ?_ ?_ | simp only [SeesL])
        · rw [if_neg k3, if_neg k3]
          by_cases k4 : y.kind.tmod 6 = 4
          · have z0 : ¬ (4 : Int) = 0 := by omega
            have z1 : ¬ (4 : Int) = 1 := by omega
            have z2 : ¬ (4 : Int) = 2 := by omega
            have z3 : ¬ (4 : Int) = 3 := by omega
            have c := cS false (gVal y.val) (fun nd => rfl)
            rw [if_pos k4]
            unfold SV Ent.cells at *
            refine PCalls.intro2 Try.func12 rfl rfl Try.ntmps12 Try.results12 (by simp) fun n => ?_; simp (maxSteps := 400000) (dsimp := false) only [k4, z0, z1, z2, z3, axs, AThen, ABlock, dstsOk, AStep, callsF, AWant, aop, AS.ev, AS.put, upd, AS.bound, abin, aint, aload, astore, cellsAt, AV.cells, alen, elems, AV.int?, FPost, aresL, ares1, pack, afill, splice, Value.oneCell', Nat.reduceLT, Nat.reduceLeDiff, Nat.reduceEqDiff, Nat.reduceAdd, Nat.reduceMul, Nat.reduceSub, Nat.reduceBEq, Int.reduceLE, Int.reduceLT, Int.reduceToNat, Int.reduceNeg, Int.reduceEq, axt, ftK, ft3, pickP, AScope, AAll, pickQ, ftQ, inHeap, SAct.cells, tys]
            refine ACallK.strict rfl (c) (by simp only [SeesL, axs, axt, AS.ev, AS.put, upd, inHeap, Nat.reduceLT, Nat.reduceEqDiff, Nat.reduceAdd, Nat.reduceBEq, SAct.cells]; repeat' (first | exact True.intro | exact Sees.sc | exact Sees.none | ((with_reducible refine Sees.same ?_) <;> simp [noIds, noIdsL, noIdsE, noIdsE_U, noIdsE_UU, noIdsE_EN, noIdsE_LE, noIdsE_TL, noIdsE_U] <;> fail) | (refine Live.sees ?_ ?_ <;> first | assumption | (simp [noIdsE_U, noIdsE_UU, noIdsE_EN, noIdsE_LE, noIdsE_TL, noIdsE_U] <;> fail)) | (refine Sees.obj ?_ ?_ ?_ <;> first | exact ⟨_, _, by assumption, rfl⟩ | (simp [U_len, UU_len, EN_len, LE_len, TL_len, U_len] <;> fail) | (simp [noIdsE_U, noIdsE_UU, noIdsE_EN, noIdsE_LE, noIdsE_TL, noIdsE_U] <;> fail) | (simp [U, UU, upd] <;> fail) | (simp [U, UU, upd, neS, *] <;> fail)) | (refine Sees.of_seen 3 ?_ <;> simp [seen, upd, noIdsE, noIdsL, noIds, U, UU, Nat.add_assoc] <;> fail) | refine Sees.agg ?_ | refine And.intro ?_ ?_ | simp only [SeesL])) ?_; simp (maxSteps := 400000) (dsimp := false) only [axs, AThen, ABlock, dstsOk, AStep, callsF, AWant, aop, AS.ev, AS.put, upd, AS.bound, abin, aint, aload, astore, cellsAt, AV.cells, alen, elems, AV.int?, FPost, aresL, ares1, pack, afill, splice, Value.oneCell', Nat.reduceLT, Nat.reduceLeDiff, Nat.reduceEqDiff, Nat.reduceAdd, Nat.reduceMul, Nat.reduceSub, Nat.reduceBEq, Int.reduceLE, Int.reduceLT, Int.reduceToNat, Int.reduceNeg, Int.reduceEq, axt, ftK, ft3, pickP, AScope, AAll, pickQ, ftQ, inHeap, SAct.cells, tys]
            refine ⟨_, rfl, ?_⟩; simp (maxSteps := 400000) (dsimp := false) only [SeesL, axs, AThen, ABlock, dstsOk, AStep, callsF, AWant, aop, AS.ev, AS.put, upd, AS.bound, abin, aint, aload, astore, cellsAt, AV.cells, alen, elems, AV.int?, FPost, aresL, ares1, pack, afill, splice, Value.oneCell', Nat.reduceLT, Nat.reduceLeDiff, Nat.reduceEqDiff, Nat.reduceAdd, Nat.reduceMul, Nat.reduceSub, Nat.reduceBEq, Int.reduceLE, Int.reduceLT, Int.reduceToNat, Int.reduceNeg, Int.reduceEq, axt, ftK, ft3, pickP, AScope, AAll, pickQ, ftQ, inHeap, SAct.cells, tys] <;> repeat' (first | exact True.intro | exact Sees.sc | exact Sees.none | ((with_reducible refine Sees.same ?_) <;> simp [noIds, noIdsL, noIdsE, noIdsE_U, noIdsE_UU, noIdsE_EN, noIdsE_LE, noIdsE_TL, noIdsE_U] <;> fail) | (refine Live.sees ?_ ?_ <;> first | assumption | (simp [noIdsE_U, noIdsE_UU, noIdsE_EN, noIdsE_LE, noIdsE_TL, noIdsE_U] <;> fail)) | (refine Sees.obj ?_ ?_ ?_ <;> first | exact ⟨_, _, by assumption, rfl⟩ | (simp [U_len, UU_len, EN_len, LE_len, TL_len, U_len] <;> fail) | (simp [noIdsE_U, noIdsE_UU, noIdsE_EN, noIdsE_LE, noIdsE_TL, noIdsE_U] <;> fail) | (simp [U, UU, upd, neS] <;> fail) | (simp [U, UU, upd, neS, *] <;> fail)) | refine Sees.agg ?_ | refine Sees.tup ?_ | refine And.intro ?_ ?_ | simp only [SeesL])
          · have c := cS true (gFlag y.flag) (fun nd => rfl)
            rw [if_neg k4]
            unfold SV Ent.cells at *
            refine PCalls.intro2 Try.func12 rfl rfl Try.ntmps12 Try.results12 (by simp) fun n => ?_; simp (maxSteps := 400000) (dsimp := false) only [k0, k1, k2, k3, k4, axs, AThen, ABlock, dstsOk, AStep, callsF, AWant, aop, AS.ev, AS.put, upd, AS.bound, abin, aint, aload, astore, cellsAt, AV.cells, alen, elems, AV.int?, FPost, aresL, ares1, pack, afill, splice, Value.oneCell', Nat.reduceLT, Nat.reduceLeDiff, Nat.reduceEqDiff, Nat.reduceAdd, Nat.reduceMul, Nat.reduceSub, Nat.reduceBEq, Int.reduceLE, Int.reduceLT, Int.reduceToNat, Int.reduceNeg, Int.reduceEq, axt, ftK, ft3, pickP, AScope, AAll, pickQ, ftQ, inHeap, SAct.cells, tys]
            refine ACallK.strict rfl (c) (by simp only [SeesL, axs, axt, AS.ev, AS.put, upd, inHeap, Nat.reduceLT, Nat.reduceEqDiff, Nat.reduceAdd, Nat.reduceBEq, SAct.cells]; repeat' (first | exact True.intro | exact Sees.sc | exact Sees.none | ((with_reducible refine Sees.same ?_) <;> simp [noIds, noIdsL, noIdsE, noIdsE_U, noIdsE_UU, noIdsE_EN, noIdsE_LE, noIdsE_TL, noIdsE_U] <;> fail) | (refine Live.sees ?_ ?_ <;> first | assumption | (simp [noIdsE_U, noIdsE_UU, noIdsE_EN, noIdsE_LE, noIdsE_TL, noIdsE_U] <;> fail)) | (refine Sees.obj ?_ ?_ ?_ <;> first | exact ⟨_, _, by assumption, rfl⟩ | (simp [U_len, UU_len, EN_len, LE_len, TL_len, U_len] <;> fail) | (simp [noIdsE_U, noIdsE_UU, noIdsE_EN, noIdsE_LE, noIdsE_TL, noIdsE_U] <;> fail) | (simp [U, UU, upd] <;> fail) | (simp [U, UU, upd, neS, *] <;> fail)) | (refine Sees.of_seen 3 ?_ <;> simp [seen, upd, noIdsE, noIdsL, noIds, U, UU, Nat.add_assoc] <;> fail) | refine Sees.agg ?_ | refine And.intro ?_ ?_ | simp only [SeesL])) ?_; simp (maxSteps := 400000) (dsimp := false) only [axs, AThen, ABlock, dstsOk, AStep, callsF, AWant, aop, AS.ev, AS.put, upd, AS.bound, abin, aint, aload, astore, cellsAt, AV.cells, alen, elems, AV.int?, FPost, aresL, ares1, pack, afill, splice, Value.oneCell', Nat.reduceLT, Nat.reduceLeDiff, Nat.reduceEqDiff, Nat.reduceAdd, Nat.reduceMul, Nat.reduceSub, Nat.reduceBEq, Int.reduceLE, Int.reduceLT, Int.reduceToNat, Int.reduceNeg, Int.reduceEq, axt, ftK, ft3, pickP, AScope, AAll, pickQ, ftQ, inHeap, SAct.cells, tys]
            refine ⟨_, rfl, ?_⟩; simp (maxSteps := 400000) (dsimp := false) only [SeesL, axs, AThen, ABlock, dstsOk, AStep, callsF, AWant, aop, AS.ev, AS.put, upd, AS.bound, abin, aint, aload, astore, cellsAt, AV.cells, alen, elems, AV.int?, FPost, aresL, ares1, pack, afill, splice, Value.oneCell', Nat.reduceLT, Nat.reduceLeDiff, Nat.reduceEqDiff, Nat.reduceAdd, Nat.reduceMul, Nat.reduceSub, Nat.reduceBEq, Int.reduceLE, Int.reduceLT, Int.reduceToNat, Int.reduceNeg, Int.reduceEq, axt, ftK, ft3, pickP, AScope, AAll, pickQ, ftQ, inHeap, SAct.cells, tys] <;> repeat' (first | exact True.intro | exact Sees.sc | exact Sees.none | ((with_reducible refine Sees.same ?_) <;> simp [noIds, noIdsL, noIdsE, noIdsE_U, noIdsE_UU, noIdsE_EN, noIdsE_LE, noIdsE_TL, noIdsE_U] <;> fail) | (refine Live.sees ?_ ?_ <;> first | assumption | (simp [noIdsE_U, noIdsE_UU, noIdsE_EN, noIdsE_LE, noIdsE_TL, noIdsE_U] <;> fail)) | (refine Sees.obj ?_ ?_ ?_ <;> first | exact ⟨_, _, by assumption, rfl⟩ | (simp [U_len, UU_len, EN_len, LE_len, TL_len, U_len] <;> fail) | (simp [noIdsE_U, noIdsE_UU, noIdsE_EN, noIdsE_LE, noIdsE_TL, noIdsE_U] <;> fail) | (simp [U, UU, upd, neS] <;> fail) | (simp [U, UU, upd, neS, *] <;> fail)) | refine Sees.agg ?_ | refine Sees.tup ?_ | refine And.intro ?_ ?_ | simp only [SeesL])
end
end Go.Al
end
section
set_option linter.unusedVariables false
set_option linter.unusedSimpArgs false
set_option maxRecDepth 20000
set_option maxHeartbeats 6400000
-- axs, AThen, ABlock, dstsOk, AStep, callsF, AWant, aop, AS.ev, AS.put, upd, AS.bound, abin, aint, aload, astore, cellsAt, AV.cells, alen, elems, AV.int?, FPost, aresL, ares1, pack, afill, splice, Value.oneCell', Nat.reduceLT, Nat.reduceLeDiff, Nat.reduceEqDiff, Nat.reduceAdd, Nat.reduceMul, Nat.reduceSub, Nat.reduceBEq, Int.reduceLE, Int.reduceLT, Int.reduceToNat, Int.reduceNeg, Int.reduceEq, axt, ftK, ft3, pickP, AScope, AAll, pickQ, ftQ, inHeap, SAct.cells, tys: SAct.cells
-- NOIDS: noIdsE_EN, noIdsE_LE, noIdsE_TL, noIdsE_U, noIdsE_SA
-- LENS: EN_len, LE_len, TL_len, U_len, SA_len
namespace Go.Al
open Go.Proofs
def nilS : AV := .sc (.slice none 0 0)
theorem noIdsE_nils (m : Nat) : noIdsE (List.replicate m [.sc (.slice none 0 0)]) = true := by
  induction m with
  | zero => rfl
  | succ m ih => rw [List.replicate_succ]; simp [noIdsE, noIdsL, noIds, ih]
theorem RepEs.nilsE {w : World} {B : Nat → Nat → Prop} {β : Nat → Nat} {m b : Nat} : ∀ (k o : Nat), RepEs w B β m 1 b o (List.replicate k [nilS]) → RepEs w B β m 1 b o (LE (List.replicate k []))
  | 0, o, h => by simp only [List.replicate_zero, LE, List.map_nil, RepEs]
  | k + 1, o, h => by
    simp only [List.replicate_succ, List.map_cons, RepEs, RepF, LE] at h ⊢
    obtain ⟨h1, ⟨⟨u, hu, hv, ho⟩, hb, ht⟩, hrest⟩ := h
    refine ⟨rfl, ⟨⟨u, hu, ?_, ho⟩, hb, trivial⟩, RepEs.nilsE k _ hrest⟩
    simp only [nilS, RepV] at hv ⊢
    exact .inl ⟨hv, rfl⟩
def SV0 (k : Nat) (N : Int) (T : Tb) : AV := .agg [.lst 1 (List.replicate k [nilS]), .sc (.int .i64 N), .lst 3 (TL T)]
theorem seeSV (k : Nat) (N : Int) (T : Tb) {w : World} {B : Nat → Nat → Prop} {β : Nat → Nat} {m : Nat} {u : Value} (h : RepV w B β m (SV0 k N T) u) : RepV w B β m (SV (List.replicate k []) N T) u := by
  simp only [RepV, SV0, SV, RepC] at h ⊢
  obtain ⟨cs, rfl, a1, r1, rfl, b1, o1, rest⟩ := h
  refine ⟨_, rfl, a1, r1, rfl, ?_, o1, rest⟩
  rcases b1 with ⟨e1, e2⟩ | ⟨b, o, c, e1, e2, e3⟩
  · refine .inl ⟨e1, ?_⟩
    have : k = 0 := by simpa using congrArg List.length e2
    rw [this]; rfl
  · refine .inr ⟨b, o, c, by rw [e1]; simp [LE], by simpa [LE] using e2, RepEs.nilsE k o e3⟩
theorem PCalls.see {P : Program} {f : FuncId} {args : List AV} {v v' : AV} (h : PCalls P f args v) (hr : ∀ w B β m u, RepV w B β m v u → RepV w B β m v' u) : PCalls P f args v' :=
  ⟨h.1, fun w B0 β n cargs h0 hargs => (h.2 w B0 β n cargs h0 hargs).mono fun _ _ ⟨u, k1, k2, k3⟩ => ⟨u, k1, k2, hr _ _ _ _ _ k3⟩⟩
theorem rStNew (q : Int) : PCalls Try.prog 10 [.sc (.int .i64 q)] (SV (List.replicate (lsK q) []) 8 (List.replicate 8 z3)) := by
  refine PCalls.see (v := SV0 (lsK q) 8 (List.replicate 8 z3)) ?_ (fun w B β m u hu => seeSV _ _ _ hu)
  obtain ⟨hqe, q1, q2⟩ := lsK_rng q
  generalize lsK q = m at *
  have b1 : (0 : Int) ≤ (m : Int) := by omega
  have b2 : (m : Int) * 24 ≤ 140737488355328 := by omega
  have b3 : (m : Int) ≤ 1099511627776 := by omega
  have cn := rHtNew
  generalize List.replicate 8 z3 = T0 at *
  unfold SV0 nilS
  unfold RT at cn
  refine PCalls.intro2 Try.func10 rfl rfl Try.ntmps10 Try.results10 (by simp) fun n => ?_; simp (maxSteps := 400000) (dsimp := false) only [axs, AThen, ABlock, dstsOk, AStep, callsF, AWant, aop, AS.ev, AS.put, upd, AS.bound, abin, aint, aload, astore, cellsAt, AV.cells, alen, elems, AV.int?, FPost, aresL, ares1, pack, afill, splice, Value.oneCell', Nat.reduceLT, Nat.reduceLeDiff, Nat.reduceEqDiff, Nat.reduceAdd, Nat.reduceMul, Nat.reduceSub, Nat.reduceBEq, Int.reduceLE, Int.reduceLT, Int.reduceToNat, Int.reduceNeg, Int.reduceEq, axt, ftK, ft3, pickP, AScope, AAll, pickQ, ftQ, inHeap, SAct.cells, tys]
  refine ADraw.planR [] [(0, true), (1, true), (2, true), (4, true), (3, true), (5, true), (6, true)] [(0, false), (0, false), (0, false), (1, false), (0, false), (0, false), (0, false)] mixed (by kernel_rfl) (by kernel_rfl) ?_
  have pk : ∀ (o x : Oper) (l : List Oper) (b : Bool) (ps : List (Nat × Bool)), pickB (o :: x :: l) ((1, b) :: ps) = (x, b) :: pickB (o :: l) ps := fun _ _ _ _ _ => rfl
  simp (maxSteps := 400000) (dsimp := false) only [pk, hqe, axs, AThen, ABlock, dstsOk, AStep, callsF, AWant, aop, AS.ev, AS.put, upd, AS.bound, abin, aint, aload, astore, cellsAt, AV.cells, alen, elems, AV.int?, FPost, aresL, ares1, pack, afill, splice, Value.oneCell', Nat.reduceLT, Nat.reduceLeDiff, Nat.reduceEqDiff, Nat.reduceAdd, Nat.reduceMul, Nat.reduceSub, Nat.reduceBEq, Int.reduceLE, Int.reduceLT, Int.reduceToNat, Int.reduceNeg, Int.reduceEq, axt, ftK, ft3, pickP, AScope, AAll, pickQ, ftQ, inHeap, SAct.cells, tys]
  refine ACallP.pure rfl (cn) ?_; simp (maxSteps := 400000) (dsimp := false) only [b1, b2, b3, axs, AThen, ABlock, dstsOk, AStep, callsF, AWant, aop, AS.ev, AS.put, upd, AS.bound, abin, aint, aload, astore, cellsAt, AV.cells, alen, elems, AV.int?, FPost, aresL, ares1, pack, afill, splice, Value.oneCell', Nat.reduceLT, Nat.reduceLeDiff, Nat.reduceEqDiff, Nat.reduceAdd, Nat.reduceMul, Nat.reduceSub, Nat.reduceBEq, Int.reduceLE, Int.reduceLT, Int.reduceToNat, Int.reduceNeg, Int.reduceEq, axt, ftK, ft3, pickP, AScope, AAll, pickQ, ftQ, inHeap, SAct.cells, tys]
  refine ⟨_, rfl, ?_⟩; simp (maxSteps := 400000) (dsimp := false) only [SeesL, axs, AThen, ABlock, dstsOk, AStep, callsF, AWant, aop, AS.ev, AS.put, upd, AS.bound, abin, aint, aload, astore, cellsAt, AV.cells, alen, elems, AV.int?, FPost, aresL, ares1, pack, afill, splice, Value.oneCell', Nat.reduceLT, Nat.reduceLeDiff, Nat.reduceEqDiff, Nat.reduceAdd, Nat.reduceMul, Nat.reduceSub, Nat.reduceBEq, Int.reduceLE, Int.reduceLT, Int.reduceToNat, Int.reduceNeg, Int.reduceEq, axt, ftK, ft3, pickP, AScope, AAll, pickQ, ftQ, inHeap, SAct.cells, tys] <;> repeat' (first | exact True.intro | exact Sees.sc | exact Sees.none | ((with_reducible refine Sees.same ?_) <;> simp [noIds, noIdsL, noIdsE, noIdsE_U, noIdsE_UU, noIdsE_EN, noIdsE_LE, noIdsE_TL, noIdsE_U, noIdsE_SA] <;> fail) | (refine Live.sees ?_ ?_ <;> first | assumption | (simp [noIdsE_U, noIdsE_UU, noIdsE_EN, noIdsE_LE, noIdsE_TL, noIdsE_U, noIdsE_SA] <;> fail)) | (refine Sees.obj ?_ ?_ ?_ <;> first | exact ⟨_, _, by assumption, rfl⟩ | (simp [U_len, UU_len, EN_len, LE_len, TL_len, U_len, SA_len] <;> fail) | (simp [noIdsE_U, noIdsE_UU, noIdsE_EN, noIdsE_LE, noIdsE_TL, noIdsE_U, noIdsE_SA] <;> fail) | (simp [U, UU, upd, neS] <;> fail) | (simp [U, UU, upd, neS, *] <;> fail)) | refine Sees.agg ?_ | refine Sees.tup ?_ | refine And.intro ?_ ?_ | simp only [SeesL])
  exact Sees.obj (by simp [upd, neS]) (by simp) (noIdsE_nils m)
end Go.Al
end
