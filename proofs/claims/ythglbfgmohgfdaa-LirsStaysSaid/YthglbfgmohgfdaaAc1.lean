/- Acts with keys: what the reference tells of them. Conditions: the numbers fit their kinds. -/
import Derived.Test.YthglbfgmohgfdaaSq11
set_option linter.unusedVariables false
set_option linter.unusedSimpArgs false
set_option maxRecDepth 20000
namespace Go.Al
open Go.Proofs
structure Deed where
  kind : Int
  key : Int
  num : Int
def Deed.cells (a : Deed) : List AV := [.sc (.int .u8 a.kind), .sc (.int .u64 a.key), .sc (.int .u16 a.num)]
structure Deed.Fits (a : Deed) : Prop where
  k0 : 0 ≤ a.kind
  k1 : a.kind < 256
  y0 : 0 ≤ a.key
  y1 : a.key < 18446744073709551616
  n0 : 0 ≤ a.num
  n1 : a.num < 65536
theorem deed_of {x : List Value} (h : FitK [some .u8, some .u64, some .u16] x) : ∃ a : Deed, a.Fits ∧ x.map AV.sc = a.cells := by
  simp only [FitK] at h
  obtain ⟨a, r, rfl, ha, b, r, rfl, hb, c, r, rfl, hc, rfl⟩ := h
  simp [Lit.wf, IntKind.min, IntKind.max, IntKind.signed, IntKind.bits] at ha hb hc
  exact ⟨⟨a, b, c⟩, ⟨ha.1, by show a < 256; omega, hb.1, by show b < _; omega, hc.1, by show c < _; omega⟩, rfl⟩
def DD (l : List Deed) : List (List AV) := l.map Deed.cells
theorem DD_len (l : List Deed) : (DD l).length = l.length := by simp [DD]
theorem DD_get {l : List Deed} {p : Nat} {x : Deed} (h : l[p]? = some x) : (DD l)[p]? = some [.sc (.int .u8 x.kind), .sc (.int .u64 x.key), .sc (.int .u16 x.num)] := by simp [DD, h, Deed.cells]
theorem noIdsE_DD (l : List Deed) : noIdsE (DD l) = true := noIdsE_map _ (fun x => by simp [Deed.cells, noIdsL, noIds]) l
theorem rows_DD {es : List (List Value)} (h : ∀ x ∈ es, FitK [some .u8, some .u64, some .u16] x) : ∃ l : List Deed, (es.map fun e => e.map AV.sc) = DD l ∧ (∀ a ∈ l, a.Fits) ∧ l.length = es.length :=
  rows_of Deed.cells Deed.Fits (fun x hx => deed_of hx) h
def capOf (c : Int) : Int := if c < 1 then 1 else if c > 1048576 then 1048576 else c
theorem capOf_le (c : Int) : 1 ≤ capOf c ∧ capOf c ≤ 1048576 := by unfold capOf; split <;> (try split) <;> omega
theorem capOf_mm (c : Int) : (if (1048576 : Int) < (if 1 > c then 1 else c) then 1048576 else (if 1 > c then 1 else c)) = capOf c := by
  unfold capOf
  by_cases h1 : (1 : Int) > c
  · have h2 : c < 1 := h1
    simp [h1, h2]
  · have h2 : ¬ c < 1 := h1
    by_cases h3 : (1048576 : Int) < c
    · have h4 : c > 1048576 := h3
      simp [h1, h2, h3, h4]
    · have h4 : ¬ c > 1048576 := h3
      simp [h1, h2, h3, h4]
theorem capOf_same {c : Int} (h1 : 1 ≤ c) (h2 : c ≤ 1048576) : capOf c = c := by unfold capOf; rw [if_neg (by omega), if_neg (by omega)]
theorem rCap (c : Int) : PCalls Try.prog 30 [.sc (.int .i64 c)] (.sc (.int .i64 (capOf c))) := by
  unfold capOf
  refine PCalls.intro2 Try.func30 rfl rfl Try.ntmps30 Try.results30 (by simp) fun n => ?_; simp (maxSteps := 400000) (dsimp := false) only [axs, AThen, ABlock, dstsOk, AStep, callsF, AWant, aop, AS.ev, AS.put, upd, AS.bound, abin, aint, aload, astore, cellsAt, AV.cells, alen, elems, AV.int?, FPost, aresL, ares1, pack, afill, splice, Value.oneCell', Nat.reduceLT, Nat.reduceLeDiff, Nat.reduceEqDiff, Nat.reduceAdd, Nat.reduceMul, Nat.reduceSub, Nat.reduceBEq, Int.reduceLE, Int.reduceLT, Int.reduceToNat, Int.reduceNeg, Int.reduceEq, axt, ftK, ft3, pickP, AScope, AAll, pickQ, ftQ, inHeap, tys]
  by_cases h1 : c < 1
  · simp (maxSteps := 400000) (dsimp := false) only [h1, axs, AThen, ABlock, dstsOk, AStep, callsF, AWant, aop, AS.ev, AS.put, upd, AS.bound, abin, aint, aload, astore, cellsAt, AV.cells, alen, elems, AV.int?, FPost, aresL, ares1, pack, afill, splice, Value.oneCell', Nat.reduceLT, Nat.reduceLeDiff, Nat.reduceEqDiff, Nat.reduceAdd, Nat.reduceMul, Nat.reduceSub, Nat.reduceBEq, Int.reduceLE, Int.reduceLT, Int.reduceToNat, Int.reduceNeg, Int.reduceEq, axt, ftK, ft3, pickP, AScope, AAll, pickQ, ftQ, inHeap, tys]
    exact ⟨_, rfl, Sees.sc⟩
  · by_cases h2 : c > 1048576
    · simp (maxSteps := 400000) (dsimp := false) only [h1, h2, axs, AThen, ABlock, dstsOk, AStep, callsF, AWant, aop, AS.ev, AS.put, upd, AS.bound, abin, aint, aload, astore, cellsAt, AV.cells, alen, elems, AV.int?, FPost, aresL, ares1, pack, afill, splice, Value.oneCell', Nat.reduceLT, Nat.reduceLeDiff, Nat.reduceEqDiff, Nat.reduceAdd, Nat.reduceMul, Nat.reduceSub, Nat.reduceBEq, Int.reduceLE, Int.reduceLT, Int.reduceToNat, Int.reduceNeg, Int.reduceEq, axt, ftK, ft3, pickP, AScope, AAll, pickQ, ftQ, inHeap, tys]
      exact ⟨_, rfl, Sees.sc⟩
    · simp (maxSteps := 400000) (dsimp := false) only [h1, h2, axs, AThen, ABlock, dstsOk, AStep, callsF, AWant, aop, AS.ev, AS.put, upd, AS.bound, abin, aint, aload, astore, cellsAt, AV.cells, alen, elems, AV.int?, FPost, aresL, ares1, pack, afill, splice, Value.oneCell', Nat.reduceLT, Nat.reduceLeDiff, Nat.reduceEqDiff, Nat.reduceAdd, Nat.reduceMul, Nat.reduceSub, Nat.reduceBEq, Int.reduceLE, Int.reduceLT, Int.reduceToNat, Int.reduceNeg, Int.reduceEq, axt, ftK, ft3, pickP, AScope, AAll, pickQ, ftQ, inHeap, tys]
      exact ⟨_, rfl, Sees.sc⟩
def kindOf (a : Deed) (there : Bool) : Int :=
  if a.kind.tmod 10 = 0 then 3 else if a.kind.tmod 10 = 1 then 4 else if a.kind.tmod 10 = 2 then 1 else if a.kind.tmod 10 = 3 then 2 else if there then 1 else 2
theorem kindOf_cases (a : Deed) (t : Bool) : kindOf a t = 1 ∨ kindOf a t = 2 ∨ kindOf a t = 3 ∨ kindOf a t = 4 := by
  unfold kindOf
  repeat' split
  all_goals omega
theorem rKind (a : Deed) (t : Bool) : PCalls Try.prog 23 [.agg [.sc (.int .u8 a.kind), .sc (.int .u64 a.key), .sc (.int .u16 a.num)], .sc (.bool t)] (.sc (.int .i64 (kindOf a t))) := by
  unfold kindOf
  refine PCalls.intro2 Try.func23 rfl rfl Try.ntmps23 Try.results23 (by simp) fun n => ?_; simp (maxSteps := 400000) (dsimp := false) only [axs, AThen, ABlock, dstsOk, AStep, callsF, AWant, aop, AS.ev, AS.put, upd, AS.bound, abin, aint, aload, astore, cellsAt, AV.cells, alen, elems, AV.int?, FPost, aresL, ares1, pack, afill, splice, Value.oneCell', Nat.reduceLT, Nat.reduceLeDiff, Nat.reduceEqDiff, Nat.reduceAdd, Nat.reduceMul, Nat.reduceSub, Nat.reduceBEq, Int.reduceLE, Int.reduceLT, Int.reduceToNat, Int.reduceNeg, Int.reduceEq, axt, ftK, ft3, pickP, AScope, AAll, pickQ, ftQ, inHeap, tys]
  by_cases h0 : a.kind.tmod 10 = 0
  · simp (maxSteps := 400000) (dsimp := false) only [h0, axs, AThen, ABlock, dstsOk, AStep, callsF, AWant, aop, AS.ev, AS.put, upd, AS.bound, abin, aint, aload, astore, cellsAt, AV.cells, alen, elems, AV.int?, FPost, aresL, ares1, pack, afill, splice, Value.oneCell', Nat.reduceLT, Nat.reduceLeDiff, Nat.reduceEqDiff, Nat.reduceAdd, Nat.reduceMul, Nat.reduceSub, Nat.reduceBEq, Int.reduceLE, Int.reduceLT, Int.reduceToNat, Int.reduceNeg, Int.reduceEq, axt, ftK, ft3, pickP, AScope, AAll, pickQ, ftQ, inHeap, tys]
    exact ⟨_, rfl, Sees.sc⟩
  by_cases h1 : a.kind.tmod 10 = 1
  · have e : ¬ (1 : Int) = 0 := by omega
    simp (maxSteps := 400000) (dsimp := false) only [h1, e, axs, AThen, ABlock, dstsOk, AStep, callsF, AWant, aop, AS.ev, AS.put, upd, AS.bound, abin, aint, aload, astore, cellsAt, AV.cells, alen, elems, AV.int?, FPost, aresL, ares1, pack, afill, splice, Value.oneCell', Nat.reduceLT, Nat.reduceLeDiff, Nat.reduceEqDiff, Nat.reduceAdd, Nat.reduceMul, Nat.reduceSub, Nat.reduceBEq, Int.reduceLE, Int.reduceLT, Int.reduceToNat, Int.reduceNeg, Int.reduceEq, axt, ftK, ft3, pickP, AScope, AAll, pickQ, ftQ, inHeap, tys]
    exact ⟨_, rfl, Sees.sc⟩
  by_cases h2 : a.kind.tmod 10 = 2
  · simp (maxSteps := 400000) (dsimp := false) only [h2, axs, AThen, ABlock, dstsOk, AStep, callsF, AWant, aop, AS.ev, AS.put, upd, AS.bound, abin, aint, aload, astore, cellsAt, AV.cells, alen, elems, AV.int?, FPost, aresL, ares1, pack, afill, splice, Value.oneCell', Nat.reduceLT, Nat.reduceLeDiff, Nat.reduceEqDiff, Nat.reduceAdd, Nat.reduceMul, Nat.reduceSub, Nat.reduceBEq, Int.reduceLE, Int.reduceLT, Int.reduceToNat, Int.reduceNeg, Int.reduceEq, axt, ftK, ft3, pickP, AScope, AAll, pickQ, ftQ, inHeap, tys]
    exact ⟨_, rfl, Sees.sc⟩
  by_cases h3 : a.kind.tmod 10 = 3
  · simp (maxSteps := 400000) (dsimp := false) only [h3, axs, AThen, ABlock, dstsOk, AStep, callsF, AWant, aop, AS.ev, AS.put, upd, AS.bound, abin, aint, aload, astore, cellsAt, AV.cells, alen, elems, AV.int?, FPost, aresL, ares1, pack, afill, splice, Value.oneCell', Nat.reduceLT, Nat.reduceLeDiff, Nat.reduceEqDiff, Nat.reduceAdd, Nat.reduceMul, Nat.reduceSub, Nat.reduceBEq, Int.reduceLE, Int.reduceLT, Int.reduceToNat, Int.reduceNeg, Int.reduceEq, axt, ftK, ft3, pickP, AScope, AAll, pickQ, ftQ, inHeap, tys]
    exact ⟨_, rfl, Sees.sc⟩
  cases t
  · simp (maxSteps := 400000) (dsimp := false) only [h0, h1, h2, h3, axs, AThen, ABlock, dstsOk, AStep, callsF, AWant, aop, AS.ev, AS.put, upd, AS.bound, abin, aint, aload, astore, cellsAt, AV.cells, alen, elems, AV.int?, FPost, aresL, ares1, pack, afill, splice, Value.oneCell', Nat.reduceLT, Nat.reduceLeDiff, Nat.reduceEqDiff, Nat.reduceAdd, Nat.reduceMul, Nat.reduceSub, Nat.reduceBEq, Int.reduceLE, Int.reduceLT, Int.reduceToNat, Int.reduceNeg, Int.reduceEq, axt, ftK, ft3, pickP, AScope, AAll, pickQ, ftQ, inHeap, tys]
    exact ⟨_, rfl, Sees.sc⟩
  · simp (maxSteps := 400000) (dsimp := false) only [h0, h1, h2, h3, axs, AThen, ABlock, dstsOk, AStep, callsF, AWant, aop, AS.ev, AS.put, upd, AS.bound, abin, aint, aload, astore, cellsAt, AV.cells, alen, elems, AV.int?, FPost, aresL, ares1, pack, afill, splice, Value.oneCell', Nat.reduceLT, Nat.reduceLeDiff, Nat.reduceEqDiff, Nat.reduceAdd, Nat.reduceMul, Nat.reduceSub, Nat.reduceBEq, Int.reduceLE, Int.reduceLT, Int.reduceToNat, Int.reduceNeg, Int.reduceEq, axt, ftK, ft3, pickP, AScope, AAll, pickQ, ftQ, inHeap, tys]
    exact ⟨_, rfl, Sees.sc⟩
def sizeOf' (a : Deed) : Int := 1 + a.num.tmod 14
theorem sizeOf_le {a : Deed} (h : a.Fits) : 1 ≤ sizeOf' a ∧ sizeOf' a ≤ 14 := by
  unfold sizeOf'
  have h1 := Int.tmod_nonneg 14 h.n0
  have h2 := Int.tmod_lt_of_pos a.num (show (0 : Int) < 14 by omega)
  omega
theorem rSize (a : Deed) (h : a.Fits) : PCalls Try.prog 24 [.agg [.sc (.int .u8 a.kind), .sc (.int .u64 a.key), .sc (.int .u16 a.num)]] (.sc (.int .i64 (sizeOf' a))) := by
  have w1 : IntKind.i64.wrap a.num = a.num := wrap_in h.n0 (by have := h.n1; omega)
  have := sizeOf_le h
  unfold sizeOf' at *
  have w2 : IntKind.i64.wrap (1 + a.num.tmod 14) = 1 + a.num.tmod 14 := wrap_in (by omega) (by omega)
  refine PCalls.intro2 Try.func24 rfl rfl Try.ntmps24 Try.results24 (by simp) fun n => ?_; simp (maxSteps := 400000) (dsimp := false) only [w1, w2, axs, AThen, ABlock, dstsOk, AStep, callsF, AWant, aop, AS.ev, AS.put, upd, AS.bound, abin, aint, aload, astore, cellsAt, AV.cells, alen, elems, AV.int?, FPost, aresL, ares1, pack, afill, splice, Value.oneCell', Nat.reduceLT, Nat.reduceLeDiff, Nat.reduceEqDiff, Nat.reduceAdd, Nat.reduceMul, Nat.reduceSub, Nat.reduceBEq, Int.reduceLE, Int.reduceLT, Int.reduceToNat, Int.reduceNeg, Int.reduceEq, axt, ftK, ft3, pickP, AScope, AAll, pickQ, ftQ, inHeap, tys]
  exact ⟨_, rfl, Sees.sc⟩
theorem cutTo_len (l : List Int) (z : Int) (h : 0 ≤ z) : ((cutTo l z).length : Int) = min (l.length : Int) z := by unfold cutTo; rw [List.length_take]; omega
theorem cutTo_nodup {l : List Int} (z : Int) (h : l.Nodup) : (cutTo l z).Nodup := h.sublist (List.take_sublist _ _)
theorem without_nodup {l : List Int} (k : Int) (h : l.Nodup) : (without l k).Nodup := h.sublist List.filter_sublist
theorem front_nodup {l : List Int} (k : Int) (h : l.Nodup) : (k :: without l k).Nodup := by
  rw [List.nodup_cons]
  exact ⟨by simp [without], without_nodup k h⟩
theorem without_mem_len {l : List Int} {k : Int} (h : l.Nodup) (hk : k ∈ l) : (without l k).length = l.length - 1 := by
  rw [without_count (apart_iff.2 h), if_pos hk]
theorem cutTo_nat (l : List Int) (z : Int) : cutTo l z = l.take (z.toNat) := by unfold cutTo; congr 1; omega
theorem fallen_le (l : List Int) (z : Int) : (fallen l z).length ≤ l.length := by unfold fallen; simp
theorem cutTo_le (l : List Int) (z : Int) : (cutTo l z).length ≤ l.length := by unfold cutTo; simp; omega
end Go.Al
