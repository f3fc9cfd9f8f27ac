/- Keys in queues, by the reference: a key's place, what is told of it, how many there are. Conditions: few keys. Keys in queues, of rows alone: what the store has, as the reference has it. Conditions: none. Keys in queues, by the reference: what is told, a queue for another one, a key taken out. Conditions: few keys. -/
import Derived.Test.YtdebjhjnpomlmaaSt11
import Derived.Test.YtdebjhjnpomlmaaHxB
section
set_option linter.unusedVariables false
set_option linter.unusedSimpArgs false
set_option maxRecDepth 20000
set_option maxHeartbeats 3200000
-- axs, AThen, ABlock, dstsOk, AStep, callsF, AWant, aop, AS.ev, AS.put, upd, AS.bound, abin, aint, aload, astore, cellsAt, AV.cells, alen, elems, AV.int?, FPost, aresL, ares1, pack, afill, splice, Value.oneCell', Nat.reduceLT, Nat.reduceLeDiff, Nat.reduceEqDiff, Nat.reduceAdd, Nat.reduceMul, Nat.reduceSub, Nat.reduceBEq, Int.reduceLE, Int.reduceLT, Int.reduceToNat, Int.reduceNeg, Int.reduceEq, axt, ftK, ft3, pickP, AScope, AAll, pickQ, ftQ, inHeap, Ent.cells, RT, tys: Ent.cells, RT
-- NOIDS: noIdsE_EN, noIdsE_LE, noIdsE_TL
-- LENS: EN_len, LE_len, TL_len
namespace Go.Al
open Go.Proofs
structure Ent where
  key : Int
  val : Int
  flag : Int
def Ent.cells (e : Ent) : List AV := [.sc (.int .u64 e.key), .sc (.int .u64 e.val), .sc (.int .i64 e.flag)]
def EN (l : List Ent) : List (List AV) := l.map Ent.cells
theorem EN_len (l : List Ent) : (EN l).length = l.length := by simp [EN]
theorem EN_get {l : List Ent} {p : Nat} {x : Ent} (h : l[p]? = some x) : (EN l)[p]? = some [.sc (.int .u64 x.key), .sc (.int .u64 x.val), .sc (.int .i64 x.flag)] := by simp [EN, h, Ent.cells]
theorem noIdsE_EN (l : List Ent) : noIdsE (EN l) = true := noIdsE_map _ (fun x => by simp [Ent.cells, noIdsL, noIds]) l
theorem EN_append (a b : List Ent) : EN (a ++ b) = EN a ++ EN b := by simp [EN]
theorem EN_take (l : List Ent) (k : Nat) : (EN l).take k = EN (l.take k) := by simp [EN]
theorem EN_drop (l : List Ent) (k : Nat) : (EN l).drop k = EN (l.drop k) := by simp [EN]
theorem EN_set (l : List Ent) (p : Nat) (x : Ent) : (EN l).set p [.sc (.int .u64 x.key), .sc (.int .u64 x.val), .sc (.int .i64 x.flag)] = EN (l.set p x) := by simp [EN, List.map_set, Ent.cells]
def LE (es : List (List Ent)) : List (List AV) := es.map fun l => [.lst 3 (EN l)]
theorem LE_len (l : List (List Ent)) : (LE l).length = l.length := by simp [LE]
theorem LE_get {l : List (List Ent)} {p : Nat} {x : List Ent} (h : l[p]? = some x) : (LE l)[p]? = some [.lst 3 (EN x)] := by simp [LE, h]
theorem LE_set (l : List (List Ent)) (p : Nat) (x : List Ent) : (LE l).set p [.lst 3 (EN x)] = LE (l.set p x) := by simp [LE, List.map_set]
theorem noIdsE_LE (l : List (List Ent)) : noIdsE (LE l) = true := noIdsE_map _ (fun x => by simp [noIdsL, noIds, noIdsE_EN]) l
/-- The reference's store. -/
def SV (es : List (List Ent)) (N : Int) (T : Tb) : AV := .agg [.lst 1 (LE es), .sc (.int .i64 N), .lst 3 (TL T)]
/-- The first place of a key: a queue, a place there. -/
structure First (es : List (List Ent)) (k : Int) (Q I : Nat) : Prop where
  le : Q ≤ es.length
  pre : ∀ (p : Nat) (l : List Ent), p < Q → es[p]? = some l → ∀ e ∈ l, e.key ≠ k
  at_ : Q < es.length → ∃ l e, es[Q]? = some l ∧ l[I]? = some e ∧ e.key = k ∧ ∀ (j : Nat) (e' : Ent), j < I → l[j]? = some e' → e'.key ≠ k
structure Few (es : List (List Ent)) : Prop where
  q : es.length ≤ 100
  l : ∀ (p : Nat) (x : List Ent), es[p]? = some x → x.length ≤ 1000
section
variable {es : List (List Ent)} {N k : Int} {T : Tb} {Q I : Nat}
theorem rPlaceL (F : First es k Q I) (w : Few es) : PCalls Try.prog 45 [SV es N T, .sc (.int .u64 k)] (.tup [.sc (.int .i64 (if Q < es.length then (Q : Int) else -1)), .sc (.int .i64 (if Q < es.length then (I : Int) else -1))]) := by
  have hq := w.q
  unfold SV
  refine PCalls.intro2 Try.func45 rfl rfl Try.ntmps45 Try.results45 (by simp) fun n => ?_; simp (maxSteps := 400000) (dsimp := false) only [axs, AThen, ABlock, dstsOk, AStep, callsF, AWant, aop, AS.ev, AS.put, upd, AS.bound, abin, aint, aload, astore, cellsAt, AV.cells, alen, elems, AV.int?, FPost, aresL, ares1, pack, afill, splice, Value.oneCell', Nat.reduceLT, Nat.reduceLeDiff, Nat.reduceEqDiff, Nat.reduceAdd, Nat.reduceMul, Nat.reduceSub, Nat.reduceBEq, Int.reduceLE, Int.reduceLT, Int.reduceToNat, Int.reduceNeg, Int.reduceEq, axt, ftK, ft3, pickP, AScope, AAll, pickQ, ftQ, inHeap, Ent.cells, RT, tys]
  refine ALoop.upto Q (fun p s => s.t 1 = .sc (.int .u64 k) ∧ s.t 2 = .ptr n 3 0 0 ∧ s.t 6 = .sc (.int .i64 p) ∧ s.H n = some (.obj 31 3 [[.lst 1 (LE es), .sc (.int .i64 N), .lst 3 (TL T)]] false)) ⟨rfl, rfl, rfl, by simp [upd]⟩ ?_
  rintro p s hp hb ⟨e1, e2, e6, eH⟩
  rcases Nat.lt_or_ge p es.length with hlt | hge
  · obtain ⟨x, hx, hp0, hpl, hw, hT, hD⟩ := idx hlt (by omega)
    have hg := LE_get hx
    have hxl := w.l _ _ hx
    simp (maxSteps := 400000) (dsimp := false) only [e1, e2, e6, eH, hp0, hpl, LE_len, axs, AThen, ABlock, dstsOk, AStep, callsF, AWant, aop, AS.ev, AS.put, upd, AS.bound, abin, aint, aload, astore, cellsAt, AV.cells, alen, elems, AV.int?, FPost, aresL, ares1, pack, afill, splice, Value.oneCell', Nat.reduceLT, Nat.reduceLeDiff, Nat.reduceEqDiff, Nat.reduceAdd, Nat.reduceMul, Nat.reduceSub, Nat.reduceBEq, Int.reduceLE, Int.reduceLT, Int.reduceToNat, Int.reduceNeg, Int.reduceEq, axt, ftK, ft3, pickP, AScope, AAll, pickQ, ftQ, inHeap, Ent.cells, RT, tys]
    rcases Nat.lt_or_ge p Q with hpq | hpq
    · refine ALoop.upto x.length (fun j s => s.t 1 = .sc (.int .u64 k) ∧ s.t 2 = .ptr n 3 0 0 ∧ s.t 6 = .sc (.int .i64 p) ∧ s.t 7 = .sc (.int .i64 j) ∧ s.H n = some (.obj 31 3 [[.lst 1 (LE es), .sc (.int .i64 N), .lst 3 (TL T)]] false)) ⟨e1, e2, e6, rfl, eH⟩ ?_
      rintro j s2 hj hb2 ⟨f1, f2, f6, f7, fH⟩
      rcases Nat.lt_or_ge j x.length with jlt | jge
      · obtain ⟨y, hy, j0, jl, jw, _, _⟩ := idx jlt (by omega)
        have hgy := EN_get hy
        have hne : ¬ y.key = k := F.pre p x hpq hx y (List.mem_of_getElem? hy)
        simp (maxSteps := 400000) (dsimp := false) only [f1, f2, f6, f7, fH, hg, hp0, hpl, LE_len, hgy, j0, jl, EN_len, hne, jw, axs, AThen, ABlock, dstsOk, AStep, callsF, AWant, aop, AS.ev, AS.put, upd, AS.bound, abin, aint, aload, astore, cellsAt, AV.cells, alen, elems, AV.int?, FPost, aresL, ares1, pack, afill, splice, Value.oneCell', Nat.reduceLT, Nat.reduceLeDiff, Nat.reduceEqDiff, Nat.reduceAdd, Nat.reduceMul, Nat.reduceSub, Nat.reduceBEq, Int.reduceLE, Int.reduceLT, Int.reduceToNat, Int.reduceNeg, Int.reduceEq, axt, ftK, ft3, pickP, AScope, AAll, pickQ, ftQ, inHeap, Ent.cells, RT, tys]
        exact jlt
      · have jl : ¬ (j : Int) < x.length := by omega
        simp (maxSteps := 400000) (dsimp := false) only [f1, f2, f6, f7, fH, hg, hp0, hpl, LE_len, jl, EN_len, hw, axs, AThen, ABlock, dstsOk, AStep, callsF, AWant, aop, AS.ev, AS.put, upd, AS.bound, abin, aint, aload, astore, cellsAt, AV.cells, alen, elems, AV.int?, FPost, aresL, ares1, pack, afill, splice, Value.oneCell', Nat.reduceLT, Nat.reduceLeDiff, Nat.reduceEqDiff, Nat.reduceAdd, Nat.reduceMul, Nat.reduceSub, Nat.reduceBEq, Int.reduceLE, Int.reduceLT, Int.reduceToNat, Int.reduceNeg, Int.reduceEq, axt, ftK, ft3, pickP, AScope, AAll, pickQ, ftQ, inHeap, Ent.cells, RT, tys]
        exact hpq
    · have hpQ : p = Q := by omega
      subst hpQ
      obtain ⟨l, e, q1, q2, q3, q4⟩ := F.at_ hlt
      rw [hx] at q1
      cases q1
      rw [if_pos hlt, if_pos hlt]
      refine ALoop.upto I (fun j s => s.t 1 = .sc (.int .u64 k) ∧ s.t 2 = .ptr n 3 0 0 ∧ s.t 6 = .sc (.int .i64 p) ∧ s.t 7 = .sc (.int .i64 j) ∧ s.H n = some (.obj 31 3 [[.lst 1 (LE es), .sc (.int .i64 N), .lst 3 (TL T)]] false)) ⟨e1, e2, e6, rfl, eH⟩ ?_
      rintro j s2 hj hb2 ⟨f1, f2, f6, f7, fH⟩
      have hIl := (List.getElem?_eq_some_iff.1 q2).1
      have jlt : j < x.length := by omega
      obtain ⟨y, hy, j0, jl, jw, _, _⟩ := idx jlt (by omega)
      have hgy := EN_get hy
      rcases Nat.lt_or_ge j I with ji | ji
      · have hne : ¬ y.key = k := q4 j y ji hy
        simp (maxSteps := 400000) (dsimp := false) only [f1, f2, f6, f7, fH, hg, hp0, hpl, LE_len, hgy, j0, jl, EN_len, hne, jw, axs, AThen, ABlock, dstsOk, AStep, callsF, AWant, aop, AS.ev, AS.put, upd, AS.bound, abin, aint, aload, astore, cellsAt, AV.cells, alen, elems, AV.int?, FPost, aresL, ares1, pack, afill, splice, Value.oneCell', Nat.reduceLT, Nat.reduceLeDiff, Nat.reduceEqDiff, Nat.reduceAdd, Nat.reduceMul, Nat.reduceSub, Nat.reduceBEq, Int.reduceLE, Int.reduceLT, Int.reduceToNat, Int.reduceNeg, Int.reduceEq, axt, ftK, ft3, pickP, AScope, AAll, pickQ, ftQ, inHeap, Ent.cells, RT, tys]
        exact ji
      · have : j = I := by omega
        subst this
        rw [q2] at hy
        cases hy
        simp (maxSteps := 400000) (dsimp := false) only [f1, f2, f6, f7, fH, hg, hp0, hpl, LE_len, hgy, j0, jl, EN_len, q3, axs, AThen, ABlock, dstsOk, AStep, callsF, AWant, aop, AS.ev, AS.put, upd, AS.bound, abin, aint, aload, astore, cellsAt, AV.cells, alen, elems, AV.int?, FPost, aresL, ares1, pack, afill, splice, Value.oneCell', Nat.reduceLT, Nat.reduceLeDiff, Nat.reduceEqDiff, Nat.reduceAdd, Nat.reduceMul, Nat.reduceSub, Nat.reduceBEq, Int.reduceLE, Int.reduceLT, Int.reduceToNat, Int.reduceNeg, Int.reduceEq, axt, ftK, ft3, pickP, AScope, AAll, pickQ, ftQ, inHeap, Ent.cells, RT, tys]
        refine ⟨_, rfl, ?_⟩; simp (maxSteps := 400000) (dsimp := false) only [SeesL, axs, AThen, ABlock, dstsOk, AStep, callsF, AWant, aop, AS.ev, AS.put, upd, AS.bound, abin, aint, aload, astore, cellsAt, AV.cells, alen, elems, AV.int?, FPost, aresL, ares1, pack, afill, splice, Value.oneCell', Nat.reduceLT, Nat.reduceLeDiff, Nat.reduceEqDiff, Nat.reduceAdd, Nat.reduceMul, Nat.reduceSub, Nat.reduceBEq, Int.reduceLE, Int.reduceLT, Int.reduceToNat, Int.reduceNeg, Int.reduceEq, axt, ftK, ft3, pickP, AScope, AAll, pickQ, ftQ, inHeap, Ent.cells, RT, tys] <;> repeat' (first | exact True.intro | exact Sees.sc | exact Sees.none | ((with_reducible refine Sees.same ?_) <;> simp [noIds, noIdsL, noIdsE, noIdsE_U, noIdsE_UU, noIdsE_EN, noIdsE_LE, noIdsE_TL] <;> fail) | (refine Live.sees ?_ ?_ <;> first | assumption | (simp [noIdsE_U, noIdsE_UU, noIdsE_EN, noIdsE_LE, noIdsE_TL] <;> fail)) | (refine Sees.obj ?_ ?_ ?_ <;> first | exact ⟨_, _, by assumption, rfl⟩ | (simp [U_len, UU_len, EN_len, LE_len, TL_len] <;> fail) | (simp [noIdsE_U, noIdsE_UU, noIdsE_EN, noIdsE_LE, noIdsE_TL] <;> fail) | (simp [U, UU, upd, neS] <;> fail) | (simp [U, UU, upd, neS, *] <;> fail)) | refine Sees.agg ?_ | refine Sees.tup ?_ | refine And.intro ?_ ?_ | simp only [SeesL])
  · have hpl : ¬ (p : Int) < es.length := by omega
    have hQ : ¬ Q < es.length := by have := F.le; omega
    rw [if_neg hQ, if_neg hQ]
    simp (maxSteps := 400000) (dsimp := false) only [e1, e2, e6, eH, hpl, LE_len, axs, AThen, ABlock, dstsOk, AStep, callsF, AWant, aop, AS.ev, AS.put, upd, AS.bound, abin, aint, aload, astore, cellsAt, AV.cells, alen, elems, AV.int?, FPost, aresL, ares1, pack, afill, splice, Value.oneCell', Nat.reduceLT, Nat.reduceLeDiff, Nat.reduceEqDiff, Nat.reduceAdd, Nat.reduceMul, Nat.reduceSub, Nat.reduceBEq, Int.reduceLE, Int.reduceLT, Int.reduceToNat, Int.reduceNeg, Int.reduceEq, axt, ftK, ft3, pickP, AScope, AAll, pickQ, ftQ, inHeap, Ent.cells, RT, tys]
    refine ⟨_, rfl, ?_⟩; simp (maxSteps := 400000) (dsimp := false) only [SeesL, axs, AThen, ABlock, dstsOk, AStep, callsF, AWant, aop, AS.ev, AS.put, upd, AS.bound, abin, aint, aload, astore, cellsAt, AV.cells, alen, elems, AV.int?, FPost, aresL, ares1, pack, afill, splice, Value.oneCell', Nat.reduceLT, Nat.reduceLeDiff, Nat.reduceEqDiff, Nat.reduceAdd, Nat.reduceMul, Nat.reduceSub, Nat.reduceBEq, Int.reduceLE, Int.reduceLT, Int.reduceToNat, Int.reduceNeg, Int.reduceEq, axt, ftK, ft3, pickP, AScope, AAll, pickQ, ftQ, inHeap, Ent.cells, RT, tys] <;> repeat' (first | exact True.intro | exact Sees.sc | exact Sees.none | ((with_reducible refine Sees.same ?_) <;> simp [noIds, noIdsL, noIdsE, noIdsE_U, noIdsE_UU, noIdsE_EN, noIdsE_LE, noIdsE_TL] <;> fail) | (refine Live.sees ?_ ?_ <;> first | assumption | (simp [noIdsE_U, noIdsE_UU, noIdsE_EN, noIdsE_LE, noIdsE_TL] <;> fail)) | (refine Sees.obj ?_ ?_ ?_ <;> first | exact ⟨_, _, by assumption, rfl⟩ | (simp [U_len, UU_len, EN_len, LE_len, TL_len] <;> fail) | (simp [noIdsE_U, noIdsE_UU, noIdsE_EN, noIdsE_LE, noIdsE_TL] <;> fail) | (simp [U, UU, upd, neS] <;> fail) | (simp [U, UU, upd, neS, *] <;> fail)) | refine Sees.agg ?_ | refine Sees.tup ?_ | refine And.intro ?_ ?_ | simp only [SeesL])
end
end Go.Al
end
section
set_option linter.unusedVariables false
set_option linter.unusedSimpArgs false
set_option maxHeartbeats 1600000
namespace Go.Al
def e0 : Ent := ⟨0, 0, 0⟩
def entR (R : RA) (i : Int) : Ent := ⟨(raAt R i).key, (raAt R i).val, (raAt R i).flag⟩
def ents (x : SS) : List (List Ent) := x.ls.map fun l => l.map (entR x.R)
def gete (es : List (List Ent)) (Q I : Nat) : Ent := (es.getD Q []).getD I e0
def takE (es : List (List Ent)) (Q I : Nat) : List (List Ent) := es.set Q ((es.getD Q []).eraseIdx I)
def movE (es : List (List Ent)) (q Q I : Nat) : List (List Ent) := (takE es Q I).set q (gete es Q I :: (takE es Q I).getD q [])
def setE (es : List (List Ent)) (Q I : Nat) (e : Ent) : List (List Ent) := es.set Q ((es.getD Q []).set I e)
def pshE (es : List (List Ent)) (q : Nat) (e : Ent) (f : Bool) : List (List Ent) := es.set q (if f then e :: es.getD q [] else es.getD q [] ++ [e])
def plQ (x : SS) (k : Int) : Nat := if nodeI x.T k = 0 then x.ls.length else ((raAt x.R (nodeI x.T k)).tag - 1).toNat
def plI (x : SS) (k : Int) : Nat := (x.ls.getD (plQ x k) []).idxOf (nodeI x.T k)
section
variable {x : SS} {R R' : RA} {ls : List (List Int)} {k : Int}
theorem ents_len (x : SS) : (ents x).length = x.ls.length := by simp [ents]
theorem ents_get {t : Nat} {l : List Int} (h : x.ls[t]? = some l) : (ents x)[t]? = some (l.map (entR x.R)) := by simp [ents, h]
theorem map_getD {α β : Type} (f : List α → List β) (h0 : f [] = []) (ls : List (List α)) (t : Nat) : (ls.map f).getD t [] = f (ls.getD t []) := by
  rw [List.getD_eq_getElem?_getD, List.getD_eq_getElem?_getD, List.getElem?_map]
  cases ls[t]? with
  | none => exact h0.symm
  | some l => rfl
theorem ents_getD (x : SS) (t : Nat) : (ents x).getD t [] = (x.ls.getD t []).map (entR x.R) := map_getD _ rfl _ _
theorem ents_congr {f g : Int → Ent} (h : ∀ (t : Nat) (l : List Int), ls[t]? = some l → ∀ j ∈ l, f j = g j) : (ls.map fun l => l.map f) = ls.map fun l => l.map g := by
  refine List.map_congr_left fun l hl => List.map_congr_left fun j hj => ?_
  obtain ⟨t, ht⟩ := List.getElem?_of_mem hl
  exact h t l ht j hj
/-- Where a key lies. -/
theorem SInv.pl (h : SInv x.R x.rows x.ls x.T) (h0 : nodeI x.T k ≠ 0) : ∃ l, x.ls[plQ x k]? = some l ∧ l[plI x k]? = some (nodeI x.T k) ∧ l.idxOf (nodeI x.T k) = plI x k ∧ (raAt x.R (nodeI x.T k)).tag = (plQ x k : Int) + 1 ∧ raIs x.R (nodeI x.T k) = true ∧ (raAt x.R (nodeI x.T k)).key = k := by
  rcases h.node k with ⟨n1, n2, n3, n4⟩ | ⟨n1, _⟩
  · obtain ⟨t, l, q, h1, h2, h3⟩ := h.in_list n1
    have hQ : plQ x k = t := by unfold plQ; rw [if_neg h0]; omega
    have hg : x.ls.getD t [] = l := by rw [List.getD_eq_getElem?_getD, h1]; rfl
    have hq : l.idxOf (nodeI x.T k) = q := by
      have := placeI_at (h.inv.one _ _ h1) h2
      unfold placeI at this
      rw [if_pos (List.mem_of_getElem? h2)] at this
      omega
    have hI : plI x k = q := by unfold plI; rw [hQ, hg, hq]
    exact ⟨l, by rw [hQ]; exact h1, by rw [hI]; exact h2, by rw [hI]; exact hq, by rw [hQ]; exact h3, n1, n2⟩
  · exact absurd n1 h0
theorem SInv.first (h : SInv x.R x.rows x.ls x.T) (k : Int) : First (ents x) k (plQ x k) (plI x k) := by
  by_cases h0 : nodeI x.T k = 0
  · have hQ : plQ x k = x.ls.length := if_pos h0
    have hno : ∀ i, raIs x.R i = true → (raAt x.R i).key ≠ k := by
      rcases h.node k with ⟨_, _, n3, _⟩ | ⟨_, _, n3⟩
      · exact absurd h0 n3
      · exact n3
    refine ⟨by rw [hQ, ents_len]; exact Nat.le_refl _, fun p l hp hl e he => ?_, fun hlt => ?_⟩
    · have hpl : p < x.ls.length := by omega
      rw [ents_get (List.getElem?_eq_getElem hpl)] at hl
      cases hl
      obtain ⟨j, hj, rfl⟩ := List.mem_map.1 he
      exact hno j (h.inv.live _ _ (List.getElem?_eq_getElem hpl) j hj)
    · rw [hQ, ents_len] at hlt
      omega
  · obtain ⟨l, h1, h2, h3, h4, h5, h6⟩ := h.pl h0
    have hlt := (List.getElem?_eq_some_iff.1 h1).1
    refine ⟨by rw [ents_len]; omega, fun p m hp hm e he hk => ?_, fun _ => ⟨_, _, ents_get h1, by rw [List.getElem?_map, h2]; rfl, h6, fun j e' hj he' hk => ?_⟩⟩
    · have hpl : p < x.ls.length := by omega
      rw [ents_get (List.getElem?_eq_getElem hpl)] at hm
      cases hm
      obtain ⟨j, hj, rfl⟩ := List.mem_map.1 he
      have hji : j = nodeI x.T k := h.uniq (h.inv.live _ _ (List.getElem?_eq_getElem hpl) j hj) h5 (by rw [h6]; exact hk)
      subst hji
      have := h.inv.apart _ _ _ _ (List.getElem?_eq_getElem hpl) h1 _ hj (List.mem_of_getElem? h2)
      omega
    · rw [List.getElem?_map] at he'
      cases hg : l[j]? with
      | none => rw [hg] at he'; cases he'
      | some y =>
        rw [hg] at he'
        cases he'
        have hyi : y = nodeI x.T k := h.uniq (h.inv.live _ _ h1 y (List.mem_of_getElem? hg)) h5 (by rw [h6]; exact hk)
        rw [hyi] at hg
        have hjl := (List.getElem?_eq_some_iff.1 hg).1
        have := (List.getElem?_inj hjl (h.inv.one _ _ h1)).1 (hg.trans h2.symm)
        omega
theorem SInv.there (h : SInv x.R x.rows x.ls x.T) (k : Int) : plQ x k < x.ls.length ↔ nodeI x.T k ≠ 0 := by
  constructor
  · intro hl h0
    unfold plQ at hl
    rw [if_pos h0] at hl
    omega
  · intro h0
    obtain ⟨l, h1, _⟩ := h.pl h0
    exact (List.getElem?_eq_some_iff.1 h1).1
theorem SOk.few (o : SOk x) : Few (ents x) := by
  refine ⟨by rw [ents_len]; have := o.q; omega, fun p l hl => ?_⟩
  have hp := (List.getElem?_eq_some_iff.1 hl).1
  rw [ents_len] at hp
  have hg := List.getElem?_eq_getElem hp
  rw [ents_get hg] at hl
  cases hl
  rw [List.length_map]
  have := o.ev
  have := pigeon x.R.ever.toNat _ (o.i.inv.one _ _ hg) (fun k hk => by have := ra_rng o.i.inv.ok (o.i.inv.live _ _ hg k hk); omega)
  omega
theorem gete_at (h : SInv x.R x.rows x.ls x.T) (h0 : nodeI x.T k ≠ 0) : gete (ents x) (plQ x k) (plI x k) = entR x.R (nodeI x.T k) := by
  obtain ⟨l, h1, h2, _⟩ := h.pl h0
  unfold gete
  rw [ents_getD, List.getD_eq_getElem?_getD (l := x.ls), h1, List.getD_eq_getElem?_getD]
  show ((l.map (entR x.R))[plI x k]?).getD e0 = _
  rw [List.getElem?_map, h2]; rfl
theorem gete_no (h0 : nodeI x.T k = 0) : gete (ents x) (plQ x k) (plI x k) = e0 := by
  unfold gete plQ
  rw [if_pos h0, ents_getD, List.getD_eq_getElem?_getD (l := x.ls), List.getElem?_eq_none (Nat.le_refl _)]
  rfl
theorem ents_push {R3 : RA} {rows3 : List Rw} {U : Tb} (h : SInv x.R x.rows x.ls x.T) (q : Int) (f : Bool) (sm : Same (pshR x.R k) R3) : ents ⟨R3, rows3, pushL x.ls q (raAlloc x.R).2 f, U⟩ = pshE (ents x) q.toNat ⟨k, 0, 0⟩ f := by
  obtain ⟨p1, p2, p3, p4, p5⟩ := pshR_all h.inv.ok k
  have hent : ∀ j, entR R3 j = entR (pshR x.R k) j := fun j => by unfold entR; rw [(sm.kvf j).1, (sm.kvf j).2.1, (sm.kvf j).2.2]
  have hnew : entR R3 (raAlloc x.R).2 = ⟨k, 0, 0⟩ := by rw [hent]; unfold entR; rw [p4]
  have hold : ∀ (t : Nat) (l : List Int), x.ls[t]? = some l → ∀ j ∈ l, entR R3 j = entR x.R j := fun t l hl j hj => by
    have := h.inv.live t l hl j hj
    rw [hent]; unfold entR; rw [(p5 j (fun e => by rw [e, p2] at this; cases this)).1]
  have hall := ents_congr hold
  have hg : (x.ls.getD q.toNat []).map (entR R3) = (x.ls.getD q.toNat []).map (entR x.R) := by
    rw [← map_getD (fun l => l.map (entR R3)) rfl, ← map_getD (fun l => l.map (entR x.R)) rfl, hall]
  unfold ents pshE pushL
  rw [List.map_set]
  show (x.ls.map fun l => l.map (entR R3)).set _ _ = _
  rw [hall]
  congr 1
  rw [show (x.ls.map fun l => l.map (entR x.R)).getD q.toNat [] = (x.ls.getD q.toNat []).map (entR x.R) from map_getD _ rfl _ _]
  cases f
  · show ((x.ls.getD q.toNat []) ++ [(raAlloc x.R).2]).map (entR R3) = _
    rw [List.map_append, hg, List.map_cons, List.map_nil, hnew]; rfl
  · show ((raAlloc x.R).2 :: (x.ls.getD q.toNat [])).map (entR R3) = _
    rw [List.map_cons, hg, hnew]; rfl
theorem off_at (h : SInv x.R x.rows x.ls x.T) (h0 : nodeI x.T k ≠ 0) : offL x.R x.rows x.ls (nodeI x.T k) = x.ls.set (plQ x k) ((x.ls.getD (plQ x k) []).eraseIdx (plI x k)) := by
  obtain ⟨l, h1, h2, h3, h4, h5, h6⟩ := h.pl h0
  have hg : x.ls.getD (plQ x k) [] = l := by rw [List.getD_eq_getElem?_getD, h1]; rfl
  unfold offL
  rw [if_pos (h.off_ok h5), show ((raAt x.R (nodeI x.T k)).tag - 1).toNat = plQ x k by omega, hg, h3]
theorem map_erase {α β : Type} (f : α → β) (l : List α) (i : Nat) : (l.eraseIdx i).map f = (l.map f).eraseIdx i := by
  rw [List.eraseIdx_eq_take_drop_succ, List.eraseIdx_eq_take_drop_succ, List.map_append, List.map_take, List.map_drop]
theorem ents_off {f : Int → Ent} (h : SInv x.R x.rows x.ls x.T) (h0 : nodeI x.T k ≠ 0) (hf : ∀ (t : Nat) (l : List Int), (offL x.R x.rows x.ls (nodeI x.T k))[t]? = some l → ∀ j ∈ l, f j = entR x.R j) : ((offL x.R x.rows x.ls (nodeI x.T k)).map fun l => l.map f) = takE (ents x) (plQ x k) (plI x k) := by
  rw [ents_congr hf, off_at h h0, List.map_set, map_erase]
  unfold takE
  rw [ents_getD]
  rfl
theorem ents_rem (h : SInv x.R x.rows x.ls x.T) (h0 : nodeI x.T k ≠ 0) : ents (remS x k) = takE (ents x) (plQ x k) (plI x k) := by
  obtain ⟨l, h1, h2, h3, h4, h5, h6⟩ := h.pl h0
  have ho := h.off_ok h5
  obtain ⟨inv2, _⟩ := h.inv.offL (nodeI x.T k)
  have sm := Same.offS h.inv.ok x.rows (nodeI x.T k)
  obtain ⟨m1, m2⟩ := off_mem h.inv ho
  obtain ⟨f1, _, _⟩ := raFree_all inv2.ok (i := nodeI x.T k) (by rw [sm.is]; exact h5)
  unfold remS
  rw [if_neg h0]
  refine ents_off h h0 fun t l hl j hj => ?_
  unfold entR
  rw [(f1 j (fun e => m1 t l hl (by rw [← e]; exact hj))).1, (sm.kvf j).1, (sm.kvf j).2.1, (sm.kvf j).2.2]
theorem ents_mov (h : SInv x.R x.rows x.ls x.T) (h0 : nodeI x.T k ≠ 0) {q : Int} (hq : 0 ≤ q ∧ q < x.rows.length) : ents (movS x q k) = movE (ents x) q.toNat (plQ x k) (plI x k) := by
  obtain ⟨l, h1, h2, h3, h4, h5, h6⟩ := h.pl h0
  have ho := h.off_ok h5
  obtain ⟨inv2, len2⟩ := h.inv.offL (nodeI x.T k)
  have sm := Same.offS h.inv.ok x.rows (nodeI x.T k)
  obtain ⟨m1, m2⟩ := off_mem h.inv ho
  have hlo : layOk (offS x.R x.rows (nodeI x.T k)).1 (offS x.R x.rows (nodeI x.T k)).2 q (nodeI x.T k) = true := layOk_iff.2 ⟨by rw [offS_len]; exact hq, by rw [sm.is]; exact h5, (inv2.none _ m1).1⟩
  have hL : mvL x.R x.rows x.ls q (nodeI x.T k) = pushL (offL x.R x.rows x.ls (nodeI x.T k)) q (nodeI x.T k) true := by unfold mvL; rw [if_pos hq, if_pos ho, if_pos hlo]
  have sm3 := Same.mvS h.inv.ok x.rows q (nodeI x.T k) inv2.ok
  have hent : ∀ j, entR (mvS x.R x.rows q (nodeI x.T k)).1 j = entR x.R j := fun j => by unfold entR; rw [(sm3.kvf j).1, (sm3.kvf j).2.1, (sm3.kvf j).2.2]
  have hf : entR (mvS x.R x.rows q (nodeI x.T k)).1 = entR x.R := funext hent
  have hoff := ents_off (f := entR x.R) h h0 (fun _ _ _ _ _ => rfl)
  unfold movS ents
  rw [if_neg h0]
  show ((mvL x.R x.rows x.ls q (nodeI x.T k)).map fun l => l.map (entR (mvS x.R x.rows q (nodeI x.T k)).1)) = movE (ents x) _ _ _
  rw [hf, hL]
  unfold pushL movE
  rw [List.map_set, hoff, if_pos rfl, List.map_cons, gete_at h h0]
  congr 2
  rw [← hoff, map_getD (fun l => l.map (entR x.R)) rfl]
theorem ents_set (h : SInv x.R x.rows x.ls x.T) (h0 : nodeI x.T k ≠ 0) (g : Nd → Nd) : ents (setS x k g) = setE (ents x) (plQ x k) (plI x k) ⟨(g (raAt x.R (nodeI x.T k))).key, (g (raAt x.R (nodeI x.T k))).val, (g (raAt x.R (nodeI x.T k))).flag⟩ := by
  obtain ⟨l, h1, h2, h3, h4, h5, h6⟩ := h.pl h0
  have hlt := (List.getElem?_eq_some_iff.1 h1).1
  have hIl := (List.getElem?_eq_some_iff.1 h2).1
  have hg : x.ls.getD (plQ x k) [] = l := by rw [List.getD_eq_getElem?_getD, h1]; rfl
  have hat : ∀ j, raAt (wth x.R (nodeI x.T k) g) j = if raIs x.R (nodeI x.T k) = true ∧ j = nodeI x.T k then g (raAt x.R (nodeI x.T k)) else raAt x.R j := fun j => wth_at h.inv.ok _ _ _
  have hne : ∀ j, j ≠ nodeI x.T k → entR (wth x.R (nodeI x.T k) g) j = entR x.R j := fun j hj => by unfold entR; rw [hat, if_neg (fun hh => hj hh.2)]
  have heq : entR (wth x.R (nodeI x.T k) g) (nodeI x.T k) = ⟨(g (raAt x.R (nodeI x.T k))).key, (g (raAt x.R (nodeI x.T k))).val, (g (raAt x.R (nodeI x.T k))).flag⟩ := by unfold entR; rw [hat, if_pos ⟨h5, rfl⟩]
  unfold setS setE ents
  rw [if_neg h0]
  show (x.ls.map fun l => l.map (entR (wth x.R (nodeI x.T k) g))) = _
  refine List.ext_getElem? fun t => ?_
  rw [List.getElem?_map]
  by_cases ht : t = plQ x k
  · subst ht
    rw [h1, List.getElem?_set_self (by simpa using hlt)]
    show some (l.map _) = _
    rw [show ((x.ls.map fun l => l.map (entR x.R)).getD (plQ x k) []) = l.map (entR x.R) by rw [map_getD (fun l => l.map (entR x.R)) rfl, hg]]
    congr 1
    refine List.ext_getElem? fun j => ?_
    rw [List.getElem?_map]
    by_cases hj : j = plI x k
    · subst hj
      rw [h2, List.getElem?_set_self (by simpa using hIl)]
      show some (entR _ _) = _
      rw [heq]
    · rw [List.getElem?_set_ne (fun e => hj e.symm), List.getElem?_map]
      cases hy : l[j]? with
      | none => rfl
      | some y =>
        show some (entR _ y) = some (entR _ y)
        rw [hne y (fun e => hj ?_)]
        rw [e] at hy
        exact (List.getElem?_inj (List.getElem?_eq_some_iff.1 hy).1 (h.inv.one _ _ h1)).1 (hy.trans h2.symm)
  · rw [List.getElem?_set_ne (fun e => ht e.symm), List.getElem?_map]
    cases hl : x.ls[t]? with
    | none => rfl
    | some m =>
      show some (m.map _) = some (m.map _)
      congr 1
      refine List.map_congr_left fun j hj => hne j fun e => ht ?_
      rw [e] at hj
      exact h.inv.apart _ _ _ _ hl h1 _ hj (List.mem_of_getElem? h2)
end
/-- Two tables of the same keys. -/
structure Twin (T U : Tb) : Prop where
  ok : HOk U
  len : U.length = T.length
  cnt : cnt U = cnt T
  keys : ∀ k, (sl U (hF U k)).full = (sl T (hF T k)).full
theorem HOk.full_iff {T : Tb} (h : HOk T) (k : Int) : (sl T (hF T k)).full = true ↔ ∃ t, Mem T t ∧ t.key = k := by
  obtain ⟨h1, h2⟩ := h.there k
  constructor
  · intro e; exact ⟨_, (h1 e).1, (h1 e).2⟩
  · rintro ⟨t, m, e⟩
    cases hf : (sl T (hF T k)).full with
    | true => rfl
    | false => exact absurd e (h2 hf t m)
theorem Twin.put {T U : Tb} (w : Twin T U) (h : HOk T) (hs : T.length ≤ 524288) {k : Int} (k0 : 0 ≤ k) (k1 : k < 18446744073709551616) (a b : Int) : Twin (hPut T k a) (hPut U k b) := by
  obtain ⟨p1, p2, p3, p4, p5⟩ := put_all h hs k0 k1 a
  obtain ⟨q1, q2, q3, q4, q5⟩ := put_all w.ok (by rw [w.len]; exact hs) k0 k1 b
  obtain ⟨_, _, _, g4, g5⟩ := putT_all h hs k
  obtain ⟨_, _, _, r4, r5⟩ := putT_all w.ok (by rw [w.len]; exact hs) k
  have hk := w.keys k
  have hl := w.len
  have hc := w.cnt
  refine ⟨q1, ?_, by rw [p3, q3, hk, hc], fun j => ?_⟩
  · rw [p4, q4]
    rw [hk, hc, hl] at r5
    rw [hk, hc] at r4
    cases hf : (sl T (hF T k)).full with
    | true =>
      rcases g5 with g5 | ⟨_, _, g7⟩
      · rcases r5 with r5 | ⟨_, _, r7⟩
        · omega
        · rw [hf] at r7; cases r7
      · rw [hf] at g7; cases g7
    | false =>
      have g4 := g4 hf
      have r4 := r4 hf
      omega
  · have a1 := p1.full_iff j
    have a2 := q1.full_iff j
    have b1 := h.full_iff j
    have b2 := w.ok.full_iff j
    have hkj := w.keys j
    rw [Bool.eq_iff_iff, a1, a2]
    constructor
    · rintro ⟨t, m, e⟩
      rcases (q2 t).1 m with rfl | ⟨m, hne⟩
      · exact ⟨⟨k, a, true⟩, (p2 _).2 (.inl rfl), e⟩
      · obtain ⟨t2, m2, e2⟩ := b1.1 (by rw [← hkj]; exact b2.2 ⟨t, m, e⟩)
        exact ⟨t2, (p2 _).2 (.inr ⟨m2, by rw [e2, ← e]; exact hne⟩), e2⟩
    · rintro ⟨t, m, e⟩
      rcases (p2 t).1 m with rfl | ⟨m, hne⟩
      · exact ⟨⟨k, b, true⟩, (q2 _).2 (.inl rfl), e⟩
      · obtain ⟨t2, m2, e2⟩ := b2.1 (by rw [hkj]; exact b1.2 ⟨t, m, e⟩)
        exact ⟨t2, (q2 _).2 (.inr ⟨m2, by rw [e2, ← e]; exact hne⟩), e2⟩
theorem Twin.del {T U : Tb} (w : Twin T U) (h : HOk T) (k : Int) : Twin (hDel T k).1 (hDel U k).1 := by
  obtain ⟨p1, p2, p3, p4⟩ := del_all h k
  obtain ⟨q1, q2, q3, q4⟩ := del_all w.ok k
  refine ⟨q1, by rw [p4, q4, w.len], by rw [p3, q3, w.keys, w.cnt], fun j => ?_⟩
  have a1 := p1.full_iff j
  have a2 := q1.full_iff j
  have b1 := h.full_iff j
  have b2 := w.ok.full_iff j
  have hkj := w.keys j
  rw [Bool.eq_iff_iff, a1, a2]
  constructor
  · rintro ⟨t, m, e⟩
    obtain ⟨m, hne⟩ := (q2 t).1 m
    obtain ⟨t2, m2, e2⟩ := b1.1 (by rw [← hkj]; exact b2.2 ⟨t, m, e⟩)
    exact ⟨t2, (p2 _).2 ⟨m2, by rw [e2, ← e]; exact hne⟩, e2⟩
  · rintro ⟨t, m, e⟩
    obtain ⟨m, hne⟩ := (p2 t).1 m
    obtain ⟨t2, m2, e2⟩ := b2.1 (by rw [hkj]; exact b1.2 ⟨t, m, e⟩)
    exact ⟨t2, (q2 _).2 ⟨m2, by rw [e2, ← e]; exact hne⟩, e2⟩
theorem Twin.refl {T : Tb} (h : HOk T) : Twin T T := ⟨h, rfl, rfl, fun _ => rfl⟩
end Go.Al
end
section
set_option linter.unusedVariables false
set_option linter.unusedSimpArgs false
set_option maxRecDepth 20000
set_option maxHeartbeats 3200000
-- axs, AThen, ABlock, dstsOk, AStep, callsF, AWant, aop, AS.ev, AS.put, upd, AS.bound, abin, aint, aload, astore, cellsAt, AV.cells, alen, elems, AV.int?, FPost, aresL, ares1, pack, afill, splice, Value.oneCell', Nat.reduceLT, Nat.reduceLeDiff, Nat.reduceEqDiff, Nat.reduceAdd, Nat.reduceMul, Nat.reduceSub, Nat.reduceBEq, Int.reduceLE, Int.reduceLT, Int.reduceToNat, Int.reduceNeg, Int.reduceEq, axt, ftK, ft3, pickP, AScope, AAll, pickQ, ftQ, inHeap, Ent.cells, RT, tys: Ent.cells, RT
-- NOIDS: noIdsE_EN, noIdsE_LE, noIdsE_TL, noIdsE_U
-- LENS: EN_len, LE_len, TL_len, U_len
namespace Go.Al
open Go.Proofs
def totE (es : List (List Ent)) : Nat := (es.map List.length).sum
theorem totE_le : ∀ (es : List (List Ent)) (m : Nat), (∀ (p : Nat) (x : List Ent), es[p]? = some x → x.length ≤ m) → totE es ≤ es.length * m
  | [], _, _ => by simp [totE]
  | a :: es, m, h => by
    have := totE_le es m (fun p x hx => h (p + 1) x (by simpa using hx))
    have h0 := h 0 a rfl
    simp only [totE, List.map_cons, List.sum_cons, List.length_cons, Nat.succ_mul] at this ⊢
    omega
theorem totE_take (es : List (List Ent)) (p : Nat) (x : List Ent) (h : es[p]? = some x) : totE (es.take (p + 1)) = totE (es.take p) + x.length := by
  have hlt := (List.getElem?_eq_some_iff.1 h).1
  rw [List.take_add_one, h]
  simp [totE]
section
variable {es : List (List Ent)} {N k : Int} {T : Tb} {Q I : Nat}
theorem rFindL (F : First es k Q I) (w : Few es) : PCalls Try.prog 17 [SV es N T, .sc (.int .u64 k)] (.tup [.sc (.int .i64 (if Q < es.length then (Q : Int) else 0)), .sc (.bool (decide (Q < es.length)))]) := by
  have cp := rPlaceL (N := N) (T := T) F w
  unfold SV at *
  by_cases hq : Q < es.length
  · rw [if_pos hq, if_pos hq] at cp
    rw [if_pos hq, decide_eq_true hq]
    have hm : ¬ (0 : Int) > Q := by omega
    have hm2 : (Q : Int) ≥ 0 := by omega
    have hm3 : ¬ (Q : Int) < 0 := by omega
    refine PCalls.intro2 Try.func17 rfl rfl Try.ntmps17 Try.results17 (by simp) fun n => ?_; simp (maxSteps := 400000) (dsimp := false) only [axs, AThen, ABlock, dstsOk, AStep, callsF, AWant, aop, AS.ev, AS.put, upd, AS.bound, abin, aint, aload, astore, cellsAt, AV.cells, alen, elems, AV.int?, FPost, aresL, ares1, pack, afill, splice, Value.oneCell', Nat.reduceLT, Nat.reduceLeDiff, Nat.reduceEqDiff, Nat.reduceAdd, Nat.reduceMul, Nat.reduceSub, Nat.reduceBEq, Int.reduceLE, Int.reduceLT, Int.reduceToNat, Int.reduceNeg, Int.reduceEq, axt, ftK, ft3, pickP, AScope, AAll, pickQ, ftQ, inHeap, Ent.cells, RT, tys]
    refine ACallK.strict rfl (cp) (by simp only [SeesL, hm, hm2, hm3, axs, axt, AS.ev, AS.put, upd, inHeap, Nat.reduceLT, Nat.reduceEqDiff, Nat.reduceAdd, Nat.reduceBEq, Ent.cells, RT]; repeat' (first | exact True.intro | exact Sees.sc | exact Sees.none | ((with_reducible refine Sees.same ?_) <;> simp [noIds, noIdsL, noIdsE, noIdsE_U, noIdsE_UU, noIdsE_EN, noIdsE_LE, noIdsE_TL, noIdsE_U] <;> fail) | (refine Live.sees ?_ ?_ <;> first | assumption | (simp [noIdsE_U, noIdsE_UU, noIdsE_EN, noIdsE_LE, noIdsE_TL, noIdsE_U] <;> fail)) | (refine Sees.obj ?_ ?_ ?_ <;> first | exact ⟨_, _, by assumption, rfl⟩ | (simp [U_len, UU_len, EN_len, LE_len, TL_len, U_len] <;> fail) | (simp [noIdsE_U, noIdsE_UU, noIdsE_EN, noIdsE_LE, noIdsE_TL, noIdsE_U] <;> fail) | (simp [U, UU, upd] <;> fail) | (simp [U, UU, upd, neS, *] <;> fail)) | (refine Sees.of_seen 3 ?_ <;> simp [seen, upd, noIdsE, noIdsL, noIds, U, UU, Nat.add_assoc] <;> fail) | refine Sees.agg ?_ | refine And.intro ?_ ?_ | simp only [SeesL])) ?_; simp (maxSteps := 400000) (dsimp := false) only [hm, hm2, hm3, axs, AThen, ABlock, dstsOk, AStep, callsF, AWant, aop, AS.ev, AS.put, upd, AS.bound, abin, aint, aload, astore, cellsAt, AV.cells, alen, elems, AV.int?, FPost, aresL, ares1, pack, afill, splice, Value.oneCell', Nat.reduceLT, Nat.reduceLeDiff, Nat.reduceEqDiff, Nat.reduceAdd, Nat.reduceMul, Nat.reduceSub, Nat.reduceBEq, Int.reduceLE, Int.reduceLT, Int.reduceToNat, Int.reduceNeg, Int.reduceEq, axt, ftK, ft3, pickP, AScope, AAll, pickQ, ftQ, inHeap, Ent.cells, RT, tys]
    refine ⟨_, rfl, ?_⟩; simp (maxSteps := 400000) (dsimp := false) only [SeesL, axs, AThen, ABlock, dstsOk, AStep, callsF, AWant, aop, AS.ev, AS.put, upd, AS.bound, abin, aint, aload, astore, cellsAt, AV.cells, alen, elems, AV.int?, FPost, aresL, ares1, pack, afill, splice, Value.oneCell', Nat.reduceLT, Nat.reduceLeDiff, Nat.reduceEqDiff, Nat.reduceAdd, Nat.reduceMul, Nat.reduceSub, Nat.reduceBEq, Int.reduceLE, Int.reduceLT, Int.reduceToNat, Int.reduceNeg, Int.reduceEq, axt, ftK, ft3, pickP, AScope, AAll, pickQ, ftQ, inHeap, Ent.cells, RT, tys] <;> repeat' (first | exact True.intro | exact Sees.sc | exact Sees.none | ((with_reducible refine Sees.same ?_) <;> simp [noIds, noIdsL, noIdsE, noIdsE_U, noIdsE_UU, noIdsE_EN, noIdsE_LE, noIdsE_TL, noIdsE_U] <;> fail) | (refine Live.sees ?_ ?_ <;> first | assumption | (simp [noIdsE_U, noIdsE_UU, noIdsE_EN, noIdsE_LE, noIdsE_TL, noIdsE_U] <;> fail)) | (refine Sees.obj ?_ ?_ ?_ <;> first | exact ⟨_, _, by assumption, rfl⟩ | (simp [U_len, UU_len, EN_len, LE_len, TL_len, U_len] <;> fail) | (simp [noIdsE_U, noIdsE_UU, noIdsE_EN, noIdsE_LE, noIdsE_TL, noIdsE_U] <;> fail) | (simp [U, UU, upd, neS] <;> fail) | (simp [U, UU, upd, neS, *] <;> fail)) | refine Sees.agg ?_ | refine Sees.tup ?_ | refine And.intro ?_ ?_ | simp only [SeesL])
  · rw [if_neg hq, if_neg hq] at cp
    rw [if_neg hq, decide_eq_false hq]
    refine PCalls.intro2 Try.func17 rfl rfl Try.ntmps17 Try.results17 (by simp) fun n => ?_; simp (maxSteps := 400000) (dsimp := false) only [axs, AThen, ABlock, dstsOk, AStep, callsF, AWant, aop, AS.ev, AS.put, upd, AS.bound, abin, aint, aload, astore, cellsAt, AV.cells, alen, elems, AV.int?, FPost, aresL, ares1, pack, afill, splice, Value.oneCell', Nat.reduceLT, Nat.reduceLeDiff, Nat.reduceEqDiff, Nat.reduceAdd, Nat.reduceMul, Nat.reduceSub, Nat.reduceBEq, Int.reduceLE, Int.reduceLT, Int.reduceToNat, Int.reduceNeg, Int.reduceEq, axt, ftK, ft3, pickP, AScope, AAll, pickQ, ftQ, inHeap, Ent.cells, RT, tys]
    refine ACallK.strict rfl (cp) (by simp only [SeesL, axs, axt, AS.ev, AS.put, upd, inHeap, Nat.reduceLT, Nat.reduceEqDiff, Nat.reduceAdd, Nat.reduceBEq, Ent.cells, RT]; repeat' (first | exact True.intro | exact Sees.sc | exact Sees.none | ((with_reducible refine Sees.same ?_) <;> simp [noIds, noIdsL, noIdsE, noIdsE_U, noIdsE_UU, noIdsE_EN, noIdsE_LE, noIdsE_TL, noIdsE_U] <;> fail) | (refine Live.sees ?_ ?_ <;> first | assumption | (simp [noIdsE_U, noIdsE_UU, noIdsE_EN, noIdsE_LE, noIdsE_TL, noIdsE_U] <;> fail)) | (refine Sees.obj ?_ ?_ ?_ <;> first | exact ⟨_, _, by assumption, rfl⟩ | (simp [U_len, UU_len, EN_len, LE_len, TL_len, U_len] <;> fail) | (simp [noIdsE_U, noIdsE_UU, noIdsE_EN, noIdsE_LE, noIdsE_TL, noIdsE_U] <;> fail) | (simp [U, UU, upd] <;> fail) | (simp [U, UU, upd, neS, *] <;> fail)) | (refine Sees.of_seen 3 ?_ <;> simp [seen, upd, noIdsE, noIdsL, noIds, U, UU, Nat.add_assoc] <;> fail) | refine Sees.agg ?_ | refine And.intro ?_ ?_ | simp only [SeesL])) ?_; simp (maxSteps := 400000) (dsimp := false) only [axs, AThen, ABlock, dstsOk, AStep, callsF, AWant, aop, AS.ev, AS.put, upd, AS.bound, abin, aint, aload, astore, cellsAt, AV.cells, alen, elems, AV.int?, FPost, aresL, ares1, pack, afill, splice, Value.oneCell', Nat.reduceLT, Nat.reduceLeDiff, Nat.reduceEqDiff, Nat.reduceAdd, Nat.reduceMul, Nat.reduceSub, Nat.reduceBEq, Int.reduceLE, Int.reduceLT, Int.reduceToNat, Int.reduceNeg, Int.reduceEq, axt, ftK, ft3, pickP, AScope, AAll, pickQ, ftQ, inHeap, Ent.cells, RT, tys]
    refine ⟨_, rfl, ?_⟩; simp (maxSteps := 400000) (dsimp := false) only [SeesL, axs, AThen, ABlock, dstsOk, AStep, callsF, AWant, aop, AS.ev, AS.put, upd, AS.bound, abin, aint, aload, astore, cellsAt, AV.cells, alen, elems, AV.int?, FPost, aresL, ares1, pack, afill, splice, Value.oneCell', Nat.reduceLT, Nat.reduceLeDiff, Nat.reduceEqDiff, Nat.reduceAdd, Nat.reduceMul, Nat.reduceSub, Nat.reduceBEq, Int.reduceLE, Int.reduceLT, Int.reduceToNat, Int.reduceNeg, Int.reduceEq, axt, ftK, ft3, pickP, AScope, AAll, pickQ, ftQ, inHeap, Ent.cells, RT, tys] <;> repeat' (first | exact True.intro | exact Sees.sc | exact Sees.none | ((with_reducible refine Sees.same ?_) <;> simp [noIds, noIdsL, noIdsE, noIdsE_U, noIdsE_UU, noIdsE_EN, noIdsE_LE, noIdsE_TL, noIdsE_U] <;> fail) | (refine Live.sees ?_ ?_ <;> first | assumption | (simp [noIdsE_U, noIdsE_UU, noIdsE_EN, noIdsE_LE, noIdsE_TL, noIdsE_U] <;> fail)) | (refine Sees.obj ?_ ?_ ?_ <;> first | exact ⟨_, _, by assumption, rfl⟩ | (simp [U_len, UU_len, EN_len, LE_len, TL_len, U_len] <;> fail) | (simp [noIdsE_U, noIdsE_UU, noIdsE_EN, noIdsE_LE, noIdsE_TL, noIdsE_U] <;> fail) | (simp [U, UU, upd, neS] <;> fail) | (simp [U, UU, upd, neS, *] <;> fail)) | refine Sees.agg ?_ | refine Sees.tup ?_ | refine And.intro ?_ ?_ | simp only [SeesL])
theorem rGetL (F : First es k Q I) (w : Few es) : PCalls Try.prog 18 [SV es N T, .sc (.int .u64 k)] (.agg (gete es Q I).cells) := by
  have cp := rPlaceL (N := N) (T := T) F w
  unfold SV at *
  by_cases hq : Q < es.length
  · rw [if_pos hq, if_pos hq] at cp
    obtain ⟨l, e, h1, h2, h3, h4⟩ := F.at_ hq
    have hge : gete es Q I = e := by unfold gete; rw [List.getD_eq_getElem?_getD (l := es), h1, List.getD_eq_getElem?_getD]; show (l[I]?).getD e0 = e; rw [h2]; rfl
    rw [hge]
    have hg := LE_get h1
    have hgi := EN_get h2
    have hIl := (List.getElem?_eq_some_iff.1 h2).1
    have t0 : (0 : Int) ≤ Q := by omega
    have t1 : (Q : Int) < es.length := by omega
    have t2 : ((Q : Int)).toNat = Q := by omega
    have t3 : ¬ (Q : Int) < 0 := by omega
    have s0 : (0 : Int) ≤ I := by omega
    have s1 : (I : Int) < l.length := by omega
    have s2 : ((I : Int)).toNat = I := by omega
    refine PCalls.intro2 Try.func18 rfl rfl Try.ntmps18 Try.results18 (by simp) fun n => ?_; simp (maxSteps := 400000) (dsimp := false) only [axs, AThen, ABlock, dstsOk, AStep, callsF, AWant, aop, AS.ev, AS.put, upd, AS.bound, abin, aint, aload, astore, cellsAt, AV.cells, alen, elems, AV.int?, FPost, aresL, ares1, pack, afill, splice, Value.oneCell', Nat.reduceLT, Nat.reduceLeDiff, Nat.reduceEqDiff, Nat.reduceAdd, Nat.reduceMul, Nat.reduceSub, Nat.reduceBEq, Int.reduceLE, Int.reduceLT, Int.reduceToNat, Int.reduceNeg, Int.reduceEq, axt, ftK, ft3, pickP, AScope, AAll, pickQ, ftQ, inHeap, Ent.cells, RT, tys]
    refine ACallK.strict rfl (cp) (by simp only [SeesL, t0, t1, t2, t3, hg, hgi, LE_len, EN_len, s0, s1, s2, axs, axt, AS.ev, AS.put, upd, inHeap, Nat.reduceLT, Nat.reduceEqDiff, Nat.reduceAdd, Nat.reduceBEq, Ent.cells, RT]; repeat' (first | exact True.intro | exact Sees.sc | exact Sees.none | ((with_reducible refine Sees.same ?_) <;> simp [noIds, noIdsL, noIdsE, noIdsE_U, noIdsE_UU, noIdsE_EN, noIdsE_LE, noIdsE_TL, noIdsE_U] <;> fail) | (refine Live.sees ?_ ?_ <;> first | assumption | (simp [noIdsE_U, noIdsE_UU, noIdsE_EN, noIdsE_LE, noIdsE_TL, noIdsE_U] <;> fail)) | (refine Sees.obj ?_ ?_ ?_ <;> first | exact ⟨_, _, by assumption, rfl⟩ | (simp [U_len, UU_len, EN_len, LE_len, TL_len, U_len] <;> fail) | (simp [noIdsE_U, noIdsE_UU, noIdsE_EN, noIdsE_LE, noIdsE_TL, noIdsE_U] <;> fail) | (simp [U, UU, upd] <;> fail) | (simp [U, UU, upd, neS, *] <;> fail)) | (refine Sees.of_seen 3 ?_ <;> simp [seen, upd, noIdsE, noIdsL, noIds, U, UU, Nat.add_assoc] <;> fail) | refine Sees.agg ?_ | refine And.intro ?_ ?_ | simp only [SeesL])) ?_; simp (maxSteps := 400000) (dsimp := false) only [t0, t1, t2, t3, hg, hgi, LE_len, EN_len, s0, s1, s2, axs, AThen, ABlock, dstsOk, AStep, callsF, AWant, aop, AS.ev, AS.put, upd, AS.bound, abin, aint, aload, astore, cellsAt, AV.cells, alen, elems, AV.int?, FPost, aresL, ares1, pack, afill, splice, Value.oneCell', Nat.reduceLT, Nat.reduceLeDiff, Nat.reduceEqDiff, Nat.reduceAdd, Nat.reduceMul, Nat.reduceSub, Nat.reduceBEq, Int.reduceLE, Int.reduceLT, Int.reduceToNat, Int.reduceNeg, Int.reduceEq, axt, ftK, ft3, pickP, AScope, AAll, pickQ, ftQ, inHeap, Ent.cells, RT, tys]
    refine ⟨_, rfl, ?_⟩; simp (maxSteps := 400000) (dsimp := false) only [SeesL, axs, AThen, ABlock, dstsOk, AStep, callsF, AWant, aop, AS.ev, AS.put, upd, AS.bound, abin, aint, aload, astore, cellsAt, AV.cells, alen, elems, AV.int?, FPost, aresL, ares1, pack, afill, splice, Value.oneCell', Nat.reduceLT, Nat.reduceLeDiff, Nat.reduceEqDiff, Nat.reduceAdd, Nat.reduceMul, Nat.reduceSub, Nat.reduceBEq, Int.reduceLE, Int.reduceLT, Int.reduceToNat, Int.reduceNeg, Int.reduceEq, axt, ftK, ft3, pickP, AScope, AAll, pickQ, ftQ, inHeap, Ent.cells, RT, tys] <;> repeat' (first | exact True.intro | exact Sees.sc | exact Sees.none | ((with_reducible refine Sees.same ?_) <;> simp [noIds, noIdsL, noIdsE, noIdsE_U, noIdsE_UU, noIdsE_EN, noIdsE_LE, noIdsE_TL, noIdsE_U] <;> fail) | (refine Live.sees ?_ ?_ <;> first | assumption | (simp [noIdsE_U, noIdsE_UU, noIdsE_EN, noIdsE_LE, noIdsE_TL, noIdsE_U] <;> fail)) | (refine Sees.obj ?_ ?_ ?_ <;> first | exact ⟨_, _, by assumption, rfl⟩ | (simp [U_len, UU_len, EN_len, LE_len, TL_len, U_len] <;> fail) | (simp [noIdsE_U, noIdsE_UU, noIdsE_EN, noIdsE_LE, noIdsE_TL, noIdsE_U] <;> fail) | (simp [U, UU, upd, neS] <;> fail) | (simp [U, UU, upd, neS, *] <;> fail)) | refine Sees.agg ?_ | refine Sees.tup ?_ | refine And.intro ?_ ?_ | simp only [SeesL])
  · rw [if_neg hq, if_neg hq] at cp
    have hge : gete es Q I = e0 := by unfold gete; rw [List.getD_eq_getElem?_getD (l := es), List.getElem?_eq_none (by omega)]; rfl
    rw [hge]
    unfold e0
    refine PCalls.intro2 Try.func18 rfl rfl Try.ntmps18 Try.results18 (by simp) fun n => ?_; simp (maxSteps := 400000) (dsimp := false) only [axs, AThen, ABlock, dstsOk, AStep, callsF, AWant, aop, AS.ev, AS.put, upd, AS.bound, abin, aint, aload, astore, cellsAt, AV.cells, alen, elems, AV.int?, FPost, aresL, ares1, pack, afill, splice, Value.oneCell', Nat.reduceLT, Nat.reduceLeDiff, Nat.reduceEqDiff, Nat.reduceAdd, Nat.reduceMul, Nat.reduceSub, Nat.reduceBEq, Int.reduceLE, Int.reduceLT, Int.reduceToNat, Int.reduceNeg, Int.reduceEq, axt, ftK, ft3, pickP, AScope, AAll, pickQ, ftQ, inHeap, Ent.cells, RT, tys]
    refine ACallK.strict rfl (cp) (by simp only [SeesL, axs, axt, AS.ev, AS.put, upd, inHeap, Nat.reduceLT, Nat.reduceEqDiff, Nat.reduceAdd, Nat.reduceBEq, Ent.cells, RT]; repeat' (first | exact True.intro | exact Sees.sc | exact Sees.none | ((with_reducible refine Sees.same ?_) <;> simp [noIds, noIdsL, noIdsE, noIdsE_U, noIdsE_UU, noIdsE_EN, noIdsE_LE, noIdsE_TL, noIdsE_U] <;> fail) | (refine Live.sees ?_ ?_ <;> first | assumption | (simp [noIdsE_U, noIdsE_UU, noIdsE_EN, noIdsE_LE, noIdsE_TL, noIdsE_U] <;> fail)) | (refine Sees.obj ?_ ?_ ?_ <;> first | exact ⟨_, _, by assumption, rfl⟩ | (simp [U_len, UU_len, EN_len, LE_len, TL_len, U_len] <;> fail) | (simp [noIdsE_U, noIdsE_UU, noIdsE_EN, noIdsE_LE, noIdsE_TL, noIdsE_U] <;> fail) | (simp [U, UU, upd] <;> fail) | (simp [U, UU, upd, neS, *] <;> fail)) | (refine Sees.of_seen 3 ?_ <;> simp [seen, upd, noIdsE, noIdsL, noIds, U, UU, Nat.add_assoc] <;> fail) | refine Sees.agg ?_ | refine And.intro ?_ ?_ | simp only [SeesL])) ?_; simp (maxSteps := 400000) (dsimp := false) only [axs, AThen, ABlock, dstsOk, AStep, callsF, AWant, aop, AS.ev, AS.put, upd, AS.bound, abin, aint, aload, astore, cellsAt, AV.cells, alen, elems, AV.int?, FPost, aresL, ares1, pack, afill, splice, Value.oneCell', Nat.reduceLT, Nat.reduceLeDiff, Nat.reduceEqDiff, Nat.reduceAdd, Nat.reduceMul, Nat.reduceSub, Nat.reduceBEq, Int.reduceLE, Int.reduceLT, Int.reduceToNat, Int.reduceNeg, Int.reduceEq, axt, ftK, ft3, pickP, AScope, AAll, pickQ, ftQ, inHeap, Ent.cells, RT, tys]
    refine ⟨_, rfl, ?_⟩; simp (maxSteps := 400000) (dsimp := false) only [SeesL, axs, AThen, ABlock, dstsOk, AStep, callsF, AWant, aop, AS.ev, AS.put, upd, AS.bound, abin, aint, aload, astore, cellsAt, AV.cells, alen, elems, AV.int?, FPost, aresL, ares1, pack, afill, splice, Value.oneCell', Nat.reduceLT, Nat.reduceLeDiff, Nat.reduceEqDiff, Nat.reduceAdd, Nat.reduceMul, Nat.reduceSub, Nat.reduceBEq, Int.reduceLE, Int.reduceLT, Int.reduceToNat, Int.reduceNeg, Int.reduceEq, axt, ftK, ft3, pickP, AScope, AAll, pickQ, ftQ, inHeap, Ent.cells, RT, tys] <;> repeat' (first | exact True.intro | exact Sees.sc | exact Sees.none | ((with_reducible refine Sees.same ?_) <;> simp [noIds, noIdsL, noIdsE, noIdsE_U, noIdsE_UU, noIdsE_EN, noIdsE_LE, noIdsE_TL, noIdsE_U] <;> fail) | (refine Live.sees ?_ ?_ <;> first | assumption | (simp [noIdsE_U, noIdsE_UU, noIdsE_EN, noIdsE_LE, noIdsE_TL, noIdsE_U] <;> fail)) | (refine Sees.obj ?_ ?_ ?_ <;> first | exact ⟨_, _, by assumption, rfl⟩ | (simp [U_len, UU_len, EN_len, LE_len, TL_len, U_len] <;> fail) | (simp [noIdsE_U, noIdsE_UU, noIdsE_EN, noIdsE_LE, noIdsE_TL, noIdsE_U] <;> fail) | (simp [U, UU, upd, neS] <;> fail) | (simp [U, UU, upd, neS, *] <;> fail)) | refine Sees.agg ?_ | refine Sees.tup ?_ | refine And.intro ?_ ?_ | simp only [SeesL])
theorem rTotalL (w : Few es) : PCalls Try.prog 50 [SV es N T] (.sc (.int .i64 (totE es))) := by
  have hq := w.q
  unfold SV
  refine PCalls.intro2 Try.func50 rfl rfl Try.ntmps50 Try.results50 (by simp) fun n => ?_; simp (maxSteps := 400000) (dsimp := false) only [axs, AThen, ABlock, dstsOk, AStep, callsF, AWant, aop, AS.ev, AS.put, upd, AS.bound, abin, aint, aload, astore, cellsAt, AV.cells, alen, elems, AV.int?, FPost, aresL, ares1, pack, afill, splice, Value.oneCell', Nat.reduceLT, Nat.reduceLeDiff, Nat.reduceEqDiff, Nat.reduceAdd, Nat.reduceMul, Nat.reduceSub, Nat.reduceBEq, Int.reduceLE, Int.reduceLT, Int.reduceToNat, Int.reduceNeg, Int.reduceEq, axt, ftK, ft3, pickP, AScope, AAll, pickQ, ftQ, inHeap, Ent.cells, RT, tys]
  refine ALoop.upto es.length (fun p s => s.t 1 = .ptr n 3 0 0 ∧ s.t 3 = .sc (.int .i64 (totE (es.take p))) ∧ s.t 4 = .sc (.int .i64 p) ∧ s.H n = some (.obj 31 3 [[.lst 1 (LE es), .sc (.int .i64 N), .lst 3 (TL T)]] false)) ⟨rfl, rfl, rfl, by simp [upd]⟩ ?_
  rintro p s hp hb ⟨e1, e3, e4, eH⟩
  rcases Nat.lt_or_ge p es.length with hlt | hge
  · obtain ⟨x, hx, hp0, hpl, hw, hT, hD⟩ := idx hlt (by omega)
    have hg := LE_get hx
    have hxl := w.l _ _ hx
    have htk := totE_take es p x hx
    have hle : totE (es.take p) ≤ (es.take p).length * 1000 := totE_le _ 1000 (fun j y hy => by
      rw [List.getElem?_take] at hy
      split at hy
      · exact w.l _ _ hy
      · cases hy)
    rw [List.length_take] at hle
    have w2 : IntKind.i64.wrap ((totE (es.take p) : Int) + x.length) = (totE (es.take (p + 1)) : Int) := by rw [IntWalk.i64_in _ ⟨by omega, by omega⟩, htk]; omega
    simp (maxSteps := 400000) (dsimp := false) only [e1, e3, e4, eH, hp0, hpl, LE_len, hg, EN_len, hw, w2, axs, AThen, ABlock, dstsOk, AStep, callsF, AWant, aop, AS.ev, AS.put, upd, AS.bound, abin, aint, aload, astore, cellsAt, AV.cells, alen, elems, AV.int?, FPost, aresL, ares1, pack, afill, splice, Value.oneCell', Nat.reduceLT, Nat.reduceLeDiff, Nat.reduceEqDiff, Nat.reduceAdd, Nat.reduceMul, Nat.reduceSub, Nat.reduceBEq, Int.reduceLE, Int.reduceLT, Int.reduceToNat, Int.reduceNeg, Int.reduceEq, axt, ftK, ft3, pickP, AScope, AAll, pickQ, ftQ, inHeap, Ent.cells, RT, tys]
    exact hlt
  · have hpl : ¬ (p : Int) < es.length := by omega
    rw [List.take_of_length_le hge] at e3
    simp (maxSteps := 400000) (dsimp := false) only [e1, e3, e4, eH, hpl, LE_len, axs, AThen, ABlock, dstsOk, AStep, callsF, AWant, aop, AS.ev, AS.put, upd, AS.bound, abin, aint, aload, astore, cellsAt, AV.cells, alen, elems, AV.int?, FPost, aresL, ares1, pack, afill, splice, Value.oneCell', Nat.reduceLT, Nat.reduceLeDiff, Nat.reduceEqDiff, Nat.reduceAdd, Nat.reduceMul, Nat.reduceSub, Nat.reduceBEq, Int.reduceLE, Int.reduceLT, Int.reduceToNat, Int.reduceNeg, Int.reduceEq, axt, ftK, ft3, pickP, AScope, AAll, pickQ, ftQ, inHeap, Ent.cells, RT, tys]
    refine ⟨_, rfl, ?_⟩; simp (maxSteps := 400000) (dsimp := false) only [SeesL, axs, AThen, ABlock, dstsOk, AStep, callsF, AWant, aop, AS.ev, AS.put, upd, AS.bound, abin, aint, aload, astore, cellsAt, AV.cells, alen, elems, AV.int?, FPost, aresL, ares1, pack, afill, splice, Value.oneCell', Nat.reduceLT, Nat.reduceLeDiff, Nat.reduceEqDiff, Nat.reduceAdd, Nat.reduceMul, Nat.reduceSub, Nat.reduceBEq, Int.reduceLE, Int.reduceLT, Int.reduceToNat, Int.reduceNeg, Int.reduceEq, axt, ftK, ft3, pickP, AScope, AAll, pickQ, ftQ, inHeap, Ent.cells, RT, tys] <;> repeat' (first | exact True.intro | exact Sees.sc | exact Sees.none | ((with_reducible refine Sees.same ?_) <;> simp [noIds, noIdsL, noIdsE, noIdsE_U, noIdsE_UU, noIdsE_EN, noIdsE_LE, noIdsE_TL, noIdsE_U] <;> fail) | (refine Live.sees ?_ ?_ <;> first | assumption | (simp [noIdsE_U, noIdsE_UU, noIdsE_EN, noIdsE_LE, noIdsE_TL, noIdsE_U] <;> fail)) | (refine Sees.obj ?_ ?_ ?_ <;> first | exact ⟨_, _, by assumption, rfl⟩ | (simp [U_len, UU_len, EN_len, LE_len, TL_len, U_len] <;> fail) | (simp [noIdsE_U, noIdsE_UU, noIdsE_EN, noIdsE_LE, noIdsE_TL, noIdsE_U] <;> fail) | (simp [U, UU, upd, neS] <;> fail) | (simp [U, UU, upd, neS, *] <;> fail)) | refine Sees.agg ?_ | refine Sees.tup ?_ | refine And.intro ?_ ?_ | simp only [SeesL])
theorem rWithL (w : Few es) (t : Nat) (x : List Ent) (ht : t < es.length) : PCalls Try.prog 66 [SV es N T, .sc (.int .i64 t), .lst 3 (EN x)] (SV (es.set t x) N T) := by
  have h8 := w.q
  have b1 : es.length * 24 ≤ 140737488355328 := by omega
  have b2 : es.length ≤ 1099511627776 := by omega
  have t0 : (0 : Int) ≤ t := by omega
  have t1 : (t : Int) < es.length := by omega
  have t2 : ((t : Int)).toNat = t := by omega
  have hs := LE_set es t x
  obtain ⟨y, hy⟩ : ∃ y, es[t]? = some y := ⟨_, List.getElem?_eq_getElem ht⟩
  have hg := LE_get hy
  unfold SV
  refine PCalls.intro2 Try.func66 rfl rfl Try.ntmps66 Try.results66 (by simp) fun n => ?_; simp (maxSteps := 400000) (dsimp := false) only [b1, b2, LE_len, t0, t1, t2, hs, hg, axs, AThen, ABlock, dstsOk, AStep, callsF, AWant, aop, AS.ev, AS.put, upd, AS.bound, abin, aint, aload, astore, cellsAt, AV.cells, alen, elems, AV.int?, FPost, aresL, ares1, pack, afill, splice, Value.oneCell', Nat.reduceLT, Nat.reduceLeDiff, Nat.reduceEqDiff, Nat.reduceAdd, Nat.reduceMul, Nat.reduceSub, Nat.reduceBEq, Int.reduceLE, Int.reduceLT, Int.reduceToNat, Int.reduceNeg, Int.reduceEq, axt, ftK, ft3, pickP, AScope, AAll, pickQ, ftQ, inHeap, Ent.cells, RT, tys]
  refine ⟨_, rfl, ?_⟩; simp (maxSteps := 400000) (dsimp := false) only [SeesL, axs, AThen, ABlock, dstsOk, AStep, callsF, AWant, aop, AS.ev, AS.put, upd, AS.bound, abin, aint, aload, astore, cellsAt, AV.cells, alen, elems, AV.int?, FPost, aresL, ares1, pack, afill, splice, Value.oneCell', Nat.reduceLT, Nat.reduceLeDiff, Nat.reduceEqDiff, Nat.reduceAdd, Nat.reduceMul, Nat.reduceSub, Nat.reduceBEq, Int.reduceLE, Int.reduceLT, Int.reduceToNat, Int.reduceNeg, Int.reduceEq, axt, ftK, ft3, pickP, AScope, AAll, pickQ, ftQ, inHeap, Ent.cells, RT, tys] <;> repeat' (first | exact True.intro | exact Sees.sc | exact Sees.none | ((with_reducible refine Sees.same ?_) <;> simp [noIds, noIdsL, noIdsE, noIdsE_U, noIdsE_UU, noIdsE_EN, noIdsE_LE, noIdsE_TL, noIdsE_U] <;> fail) | (refine Live.sees ?_ ?_ <;> first | assumption | (simp [noIdsE_U, noIdsE_UU, noIdsE_EN, noIdsE_LE, noIdsE_TL, noIdsE_U] <;> fail)) | (refine Sees.obj ?_ ?_ ?_ <;> first | exact ⟨_, _, by assumption, rfl⟩ | (simp [U_len, UU_len, EN_len, LE_len, TL_len, U_len] <;> fail) | (simp [noIdsE_U, noIdsE_UU, noIdsE_EN, noIdsE_LE, noIdsE_TL, noIdsE_U] <;> fail) | (simp [U, UU, upd, neS] <;> fail) | (simp [U, UU, upd, neS, *] <;> fail)) | refine Sees.agg ?_ | refine Sees.tup ?_ | refine And.intro ?_ ?_ | simp only [SeesL])
theorem rTakeL (F : First es k Q I) (w : Few es) (hq : Q < es.length) : PCalls Try.prog 67 [SV es N T, .sc (.int .u64 k)] (SV (takE es Q I) N T) := by
  have cp := rPlaceL (N := N) (T := T) F w
  rw [if_pos hq, if_pos hq] at cp
  obtain ⟨l, e, h1, h2, h3, h4⟩ := F.at_ hq
  have hql := (List.getElem?_eq_some_iff.1 h2).1
  have hll := w.l _ _ h1
  have hg0 : es.getD Q [] = l := by rw [List.getD_eq_getElem?_getD, h1]; rfl
  have htk : takE es Q I = es.set Q (l.eraseIdx I) := by unfold takE; rw [hg0]
  have cw := rWithL (N := N) (T := T) w Q (l.eraseIdx I) hq
  rw [htk]
  have hg := LE_get h1
  have t0 : (0 : Int) ≤ Q := by omega
  have t1 : (Q : Int) < es.length := by omega
  have t2 : ((Q : Int)).toNat = Q := by omega
  have q0 : (0 : Int) ≤ I := by omega
  have q1 : (I : Int) ≤ l.length := by omega
  have q2 : ((I : Int)).toNat = I := by omega
  have w1 : IntKind.i64.wrap ((I : Int) + 1) = ((I + 1 : Nat) : Int) := by rw [IntWalk.i64_in _ ⟨by omega, by omega⟩]; omega
  have q3 : (0 : Int) ≤ ((I + 1 : Nat) : Int) := by omega
  have q4 : ((I + 1 : Nat) : Int) ≤ l.length := by omega
  have q5 : (((I + 1 : Nat) : Int)).toNat = I + 1 := by omega
  have lt1 : (l.take I).length = I := by rw [List.length_take]; omega
  have lt2 : (l.drop (I + 1)).length = l.length - (I + 1) := by rw [List.length_drop]
  have b1 : I * 24 ≤ 140737488355328 := by omega
  have b2 : I ≤ 1099511627776 := by omega
  have hap : EN (l.take I) ++ EN (l.drop (I + 1)) = EN (l.eraseIdx I) := by rw [← EN_append, List.eraseIdx_eq_take_drop_succ]
  have lt3 : List.take (l.length - (I + 1)) (List.drop (I + 1) l) = List.drop (I + 1) l := List.take_of_length_le (by rw [lt2]; omega)
  have b3 : (I + (l.length - (I + 1))) * 24 ≤ 140737488355328 := by omega
  have b4 : I + (l.length - (I + 1)) ≤ 1099511627776 := by omega
  have hel : (l.eraseIdx I).length = I + (l.length - (I + 1)) := by rw [List.length_eraseIdx, if_pos hql]; omega
  unfold SV at *
  refine PCalls.intro2 Try.func67 rfl rfl Try.ntmps67 Try.results67 (by simp) fun n => ?_; simp (maxSteps := 400000) (dsimp := false) only [axs, AThen, ABlock, dstsOk, AStep, callsF, AWant, aop, AS.ev, AS.put, upd, AS.bound, abin, aint, aload, astore, cellsAt, AV.cells, alen, elems, AV.int?, FPost, aresL, ares1, pack, afill, splice, Value.oneCell', Nat.reduceLT, Nat.reduceLeDiff, Nat.reduceEqDiff, Nat.reduceAdd, Nat.reduceMul, Nat.reduceSub, Nat.reduceBEq, Int.reduceLE, Int.reduceLT, Int.reduceToNat, Int.reduceNeg, Int.reduceEq, axt, ftK, ft3, pickP, AScope, AAll, pickQ, ftQ, inHeap, Ent.cells, RT, tys]
  refine ACallK.strict rfl (cp) (by simp only [SeesL, t0, t1, t2, hg, LE_len, q0, q1, q2, EN_len, EN_take, EN_drop, lt1, lt2, lt3, b1, b2, b3, b4, w1, q3, q4, q5, hap, axs, axt, AS.ev, AS.put, upd, inHeap, Nat.reduceLT, Nat.reduceEqDiff, Nat.reduceAdd, Nat.reduceBEq, Ent.cells, RT]; repeat' (first | exact True.intro | exact Sees.sc | exact Sees.none | ((with_reducible refine Sees.same ?_) <;> simp [noIds, noIdsL, noIdsE, noIdsE_U, noIdsE_UU, noIdsE_EN, noIdsE_LE, noIdsE_TL, noIdsE_U] <;> fail) | (refine Live.sees ?_ ?_ <;> first | assumption | (simp [noIdsE_U, noIdsE_UU, noIdsE_EN, noIdsE_LE, noIdsE_TL, noIdsE_U] <;> fail)) | (refine Sees.obj ?_ ?_ ?_ <;> first | exact ⟨_, _, by assumption, rfl⟩ | (simp [U_len, UU_len, EN_len, LE_len, TL_len, U_len] <;> fail) | (simp [noIdsE_U, noIdsE_UU, noIdsE_EN, noIdsE_LE, noIdsE_TL, noIdsE_U] <;> fail) | (simp [U, UU, upd] <;> fail) | (simp [U, UU, upd, neS, *] <;> fail)) | (refine Sees.of_seen 3 ?_ <;> simp [seen, upd, noIdsE, noIdsL, noIds, U, UU, Nat.add_assoc] <;> fail) | refine Sees.agg ?_ | refine And.intro ?_ ?_ | simp only [SeesL])) ?_; simp (maxSteps := 400000) (dsimp := false) only [t0, t1, t2, hg, LE_len, q0, q1, q2, EN_len, EN_take, EN_drop, lt1, lt2, lt3, b1, b2, b3, b4, w1, q3, q4, q5, hap, axs, AThen, ABlock, dstsOk, AStep, callsF, AWant, aop, AS.ev, AS.put, upd, AS.bound, abin, aint, aload, astore, cellsAt, AV.cells, alen, elems, AV.int?, FPost, aresL, ares1, pack, afill, splice, Value.oneCell', Nat.reduceLT, Nat.reduceLeDiff, Nat.reduceEqDiff, Nat.reduceAdd, Nat.reduceMul, Nat.reduceSub, Nat.reduceBEq, Int.reduceLE, Int.reduceLT, Int.reduceToNat, Int.reduceNeg, Int.reduceEq, axt, ftK, ft3, pickP, AScope, AAll, pickQ, ftQ, inHeap, Ent.cells, RT, tys]
  rw [← hel]
  refine ACallK.shutO (id := n + 1 + 1 + 1 + 1) (upd_same _ _ _) ?_
  refine ACallK.strict rfl (cw) (by simp only [SeesL, axs, axt, AS.ev, AS.put, upd, inHeap, Nat.reduceLT, Nat.reduceEqDiff, Nat.reduceAdd, Nat.reduceBEq, Ent.cells, RT]; repeat' (first | exact True.intro | exact Sees.sc | exact Sees.none | ((with_reducible refine Sees.same ?_) <;> simp [noIds, noIdsL, noIdsE, noIdsE_U, noIdsE_UU, noIdsE_EN, noIdsE_LE, noIdsE_TL, noIdsE_U] <;> fail) | (refine Live.sees ?_ ?_ <;> first | assumption | (simp [noIdsE_U, noIdsE_UU, noIdsE_EN, noIdsE_LE, noIdsE_TL, noIdsE_U] <;> fail)) | (refine Sees.obj ?_ ?_ ?_ <;> first | exact ⟨_, _, by assumption, rfl⟩ | (simp [U_len, UU_len, EN_len, LE_len, TL_len, U_len] <;> fail) | (simp [noIdsE_U, noIdsE_UU, noIdsE_EN, noIdsE_LE, noIdsE_TL, noIdsE_U] <;> fail) | (simp [U, UU, upd] <;> fail) | (simp [U, UU, upd, neS, *] <;> fail)) | (refine Sees.of_seen 3 ?_ <;> simp [seen, upd, noIdsE, noIdsL, noIds, U, UU, Nat.add_assoc] <;> fail) | refine Sees.agg ?_ | refine And.intro ?_ ?_ | simp only [SeesL])) ?_; simp (maxSteps := 400000) (dsimp := false) only [axs, AThen, ABlock, dstsOk, AStep, callsF, AWant, aop, AS.ev, AS.put, upd, AS.bound, abin, aint, aload, astore, cellsAt, AV.cells, alen, elems, AV.int?, FPost, aresL, ares1, pack, afill, splice, Value.oneCell', Nat.reduceLT, Nat.reduceLeDiff, Nat.reduceEqDiff, Nat.reduceAdd, Nat.reduceMul, Nat.reduceSub, Nat.reduceBEq, Int.reduceLE, Int.reduceLT, Int.reduceToNat, Int.reduceNeg, Int.reduceEq, axt, ftK, ft3, pickP, AScope, AAll, pickQ, ftQ, inHeap, Ent.cells, RT, tys]
  refine ⟨_, rfl, ?_⟩; simp (maxSteps := 400000) (dsimp := false) only [SeesL, axs, AThen, ABlock, dstsOk, AStep, callsF, AWant, aop, AS.ev, AS.put, upd, AS.bound, abin, aint, aload, astore, cellsAt, AV.cells, alen, elems, AV.int?, FPost, aresL, ares1, pack, afill, splice, Value.oneCell', Nat.reduceLT, Nat.reduceLeDiff, Nat.reduceEqDiff, Nat.reduceAdd, Nat.reduceMul, Nat.reduceSub, Nat.reduceBEq, Int.reduceLE, Int.reduceLT, Int.reduceToNat, Int.reduceNeg, Int.reduceEq, axt, ftK, ft3, pickP, AScope, AAll, pickQ, ftQ, inHeap, Ent.cells, RT, tys] <;> repeat' (first | exact True.intro | exact Sees.sc | exact Sees.none | ((with_reducible refine Sees.same ?_) <;> simp [noIds, noIdsL, noIdsE, noIdsE_U, noIdsE_UU, noIdsE_EN, noIdsE_LE, noIdsE_TL, noIdsE_U] <;> fail) | (refine Live.sees ?_ ?_ <;> first | assumption | (simp [noIdsE_U, noIdsE_UU, noIdsE_EN, noIdsE_LE, noIdsE_TL, noIdsE_U] <;> fail)) | (refine Sees.obj ?_ ?_ ?_ <;> first | exact ⟨_, _, by assumption, rfl⟩ | (simp [U_len, UU_len, EN_len, LE_len, TL_len, U_len] <;> fail) | (simp [noIdsE_U, noIdsE_UU, noIdsE_EN, noIdsE_LE, noIdsE_TL, noIdsE_U] <;> fail) | (simp [U, UU, upd, neS] <;> fail) | (simp [U, UU, upd, neS, *] <;> fail)) | refine Sees.agg ?_ | refine Sees.tup ?_ | refine And.intro ?_ ?_ | simp only [SeesL])
def keysE (es : List (List Ent)) (q : Int) : List Int := if 0 ≤ q then (es.getD q.toNat []).map Ent.key else []
theorem rKeysL (w : Few es) (q : Int) : PCalls Try.prog 48 [SV es N T, .sc (.int .i64 q)] (.lst 1 (U (keysE es q))) := by
  unfold SV
  by_cases h0 : q < 0
  · have e : keysE es q = [] := if_neg (by omega)
    rw [e]
    refine PCalls.intro2 Try.func48 rfl rfl Try.ntmps48 Try.results48 (by simp) fun n => ?_; simp (maxSteps := 400000) (dsimp := false) only [h0, axs, AThen, ABlock, dstsOk, AStep, callsF, AWant, aop, AS.ev, AS.put, upd, AS.bound, abin, aint, aload, astore, cellsAt, AV.cells, alen, elems, AV.int?, FPost, aresL, ares1, pack, afill, splice, Value.oneCell', Nat.reduceLT, Nat.reduceLeDiff, Nat.reduceEqDiff, Nat.reduceAdd, Nat.reduceMul, Nat.reduceSub, Nat.reduceBEq, Int.reduceLE, Int.reduceLT, Int.reduceToNat, Int.reduceNeg, Int.reduceEq, axt, ftK, ft3, pickP, AScope, AAll, pickQ, ftQ, inHeap, Ent.cells, RT, tys]
    exact ⟨_, rfl, Sees.none⟩
  · by_cases h1 : q ≥ es.length
    · have e : keysE es q = [] := by unfold keysE; rw [if_pos (by omega), List.getD_eq_getElem?_getD, List.getElem?_eq_none (by omega)]; rfl
      rw [e]
      refine PCalls.intro2 Try.func48 rfl rfl Try.ntmps48 Try.results48 (by simp) fun n => ?_; simp (maxSteps := 400000) (dsimp := false) only [h0, h1, LE_len, axs, AThen, ABlock, dstsOk, AStep, callsF, AWant, aop, AS.ev, AS.put, upd, AS.bound, abin, aint, aload, astore, cellsAt, AV.cells, alen, elems, AV.int?, FPost, aresL, ares1, pack, afill, splice, Value.oneCell', Nat.reduceLT, Nat.reduceLeDiff, Nat.reduceEqDiff, Nat.reduceAdd, Nat.reduceMul, Nat.reduceSub, Nat.reduceBEq, Int.reduceLE, Int.reduceLT, Int.reduceToNat, Int.reduceNeg, Int.reduceEq, axt, ftK, ft3, pickP, AScope, AAll, pickQ, ftQ, inHeap, Ent.cells, RT, tys]
      exact ⟨_, rfl, Sees.none⟩
    · obtain ⟨l, hx⟩ : ∃ l, es[q.toNat]? = some l := ⟨_, List.getElem?_eq_getElem (by omega)⟩
      have e : keysE es q = l.map Ent.key := by unfold keysE; rw [if_pos (by omega), List.getD_eq_getElem?_getD, hx]; rfl
      rw [e]
      have hg := LE_get hx
      have hll := w.l _ _ hx
      have h2 : 0 ≤ q := by omega
      have h3 : q < es.length := by omega
      refine PCalls.intro2 Try.func48 rfl rfl Try.ntmps48 Try.results48 (by simp) fun n => ?_; simp (maxSteps := 400000) (dsimp := false) only [h0, h1, LE_len, axs, AThen, ABlock, dstsOk, AStep, callsF, AWant, aop, AS.ev, AS.put, upd, AS.bound, abin, aint, aload, astore, cellsAt, AV.cells, alen, elems, AV.int?, FPost, aresL, ares1, pack, afill, splice, Value.oneCell', Nat.reduceLT, Nat.reduceLeDiff, Nat.reduceEqDiff, Nat.reduceAdd, Nat.reduceMul, Nat.reduceSub, Nat.reduceBEq, Int.reduceLE, Int.reduceLT, Int.reduceToNat, Int.reduceNeg, Int.reduceEq, axt, ftK, ft3, pickP, AScope, AAll, pickQ, ftQ, inHeap, Ent.cells, RT, tys]
      refine ALoop.upto l.length (fun p s => s.t 1 = .sc (.int .i64 q) ∧ s.t 2 = .ptr n 3 0 0 ∧ s.t 6 = .sc (.int .i64 p) ∧ s.H n = some (.obj 31 3 [[.lst 1 (LE es), .sc (.int .i64 N), .lst 3 (TL T)]] false) ∧ Live 34 1 s.H (U ((l.take p).map Ent.key)) (s.t 5) ∧ (∀ id z o m, s.t 5 = .sl id z o m → n < id)) ⟨rfl, rfl, rfl, by simp [upd], Live.nil, (fun id z o m e => (nomatch e))⟩ ?_
      rintro p st hp hb ⟨e1, e2, e6, eH, hv, hid⟩
      rcases Nat.lt_or_ge p l.length with hlt | hge
      · obtain ⟨i, hi, hp0, hpl, hw, hT, hD⟩ := idx hlt (by omega)
        have hgi := EN_get hi
        have hU : U ((l.take (p + 1)).map Ent.key) = U ((l.take p).map Ent.key) ++ [[.sc (.int .u64 i.key)]] := by rw [hT, List.map_append, List.map_cons, List.map_nil, U_snoc]
        rw [hU]
        have hql : ((l.take p).map Ent.key).length = p := by rw [List.length_map, List.length_take]; omega
        generalize (l.take p).map Ent.key = qs at *
        rcases hv.cases hb with ⟨h7, h8⟩ | ⟨id, hlt2, hne, h7, h8⟩
        · have : qs = [] := by simpa [U] using h7
          subst this
          simp (maxSteps := 400000) (dsimp := false) only [e1, e2, e6, eH, hg, hgi, hp0, hpl, LE_len, EN_len, hw, h2, h3, h8, axs, AThen, ABlock, dstsOk, AStep, callsF, AWant, aop, AS.ev, AS.put, upd, AS.bound, abin, aint, aload, astore, cellsAt, AV.cells, alen, elems, AV.int?, FPost, aresL, ares1, pack, afill, splice, Value.oneCell', Nat.reduceLT, Nat.reduceLeDiff, Nat.reduceEqDiff, Nat.reduceAdd, Nat.reduceMul, Nat.reduceSub, Nat.reduceBEq, Int.reduceLE, Int.reduceLT, Int.reduceToNat, Int.reduceNeg, Int.reduceEq, axt, ftK, ft3, pickP, AScope, AAll, pickQ, ftQ, inHeap, Ent.cells, RT, tys]
          have hnn := hb _ _ eH
          exact ⟨hlt, by rw [if_neg (by omega), if_neg (by omega)], Live.mk (upd_same _ _ _) rfl, (fun id z o m e => by cases e; omega)⟩
        · have b1 : (qs.length + 1) * 8 ≤ 140737488355328 := by omega
          have b2 : qs.length + 1 ≤ 1099511627776 := by omega
          rw [U_len] at h7
          have hnid := hid _ _ _ _ h7
          simp (maxSteps := 400000) (dsimp := false) only [e1, e2, e6, eH, hg, hgi, hp0, hpl, LE_len, EN_len, hw, h2, h3, h7, h8, hne, b1, b2, U_len, axs, AThen, ABlock, dstsOk, AStep, callsF, AWant, aop, AS.ev, AS.put, upd, AS.bound, abin, aint, aload, astore, cellsAt, AV.cells, alen, elems, AV.int?, FPost, aresL, ares1, pack, afill, splice, Value.oneCell', Nat.reduceLT, Nat.reduceLeDiff, Nat.reduceEqDiff, Nat.reduceAdd, Nat.reduceMul, Nat.reduceSub, Nat.reduceBEq, Int.reduceLE, Int.reduceLT, Int.reduceToNat, Int.reduceNeg, Int.reduceEq, axt, ftK, ft3, pickP, AScope, AAll, pickQ, ftQ, inHeap, Ent.cells, RT, tys]
          have hnn := hb _ _ eH
          exact ⟨hlt, by rw [if_neg (by omega), if_neg (by omega), if_neg (by omega)], Live.mk (upd_same _ _ _) (by simp [U_len]), (fun id z o m e => by cases e; omega)⟩
      · have hpl : ¬ (p : Int) < l.length := by omega
        rw [List.take_of_length_le hge] at hv
        simp (maxSteps := 400000) (dsimp := false) only [e1, e2, e6, eH, hg, LE_len, EN_len, hpl, h2, h3, axs, AThen, ABlock, dstsOk, AStep, callsF, AWant, aop, AS.ev, AS.put, upd, AS.bound, abin, aint, aload, astore, cellsAt, AV.cells, alen, elems, AV.int?, FPost, aresL, ares1, pack, afill, splice, Value.oneCell', Nat.reduceLT, Nat.reduceLeDiff, Nat.reduceEqDiff, Nat.reduceAdd, Nat.reduceMul, Nat.reduceSub, Nat.reduceBEq, Int.reduceLE, Int.reduceLT, Int.reduceToNat, Int.reduceNeg, Int.reduceEq, axt, ftK, ft3, pickP, AScope, AAll, pickQ, ftQ, inHeap, Ent.cells, RT, tys]
        exact ⟨_, rfl, hv.sees (noIdsE_U _)⟩
theorem rSameL (l : List Int) (hl : l.length ≤ 1000) : PCalls Try.prog 49 [.lst 1 (U l), .lst 1 (U l)] (.sc (.bool true)) := by
  refine PCalls.intro2 Try.func49 rfl rfl Try.ntmps49 Try.results49 (by simp) fun n => ?_; simp (maxSteps := 400000) (dsimp := false) only [bne_self_eq_false, axs, AThen, ABlock, dstsOk, AStep, callsF, AWant, aop, AS.ev, AS.put, upd, AS.bound, abin, aint, aload, astore, cellsAt, AV.cells, alen, elems, AV.int?, FPost, aresL, ares1, pack, afill, splice, Value.oneCell', Nat.reduceLT, Nat.reduceLeDiff, Nat.reduceEqDiff, Nat.reduceAdd, Nat.reduceMul, Nat.reduceSub, Nat.reduceBEq, Int.reduceLE, Int.reduceLT, Int.reduceToNat, Int.reduceNeg, Int.reduceEq, axt, ftK, ft3, pickP, AScope, AAll, pickQ, ftQ, inHeap, Ent.cells, RT, tys]
  refine ALoop.upto l.length (fun p s => s.t 0 = .lst 1 (U l) ∧ s.t 1 = .lst 1 (U l) ∧ s.t 5 = .sc (.int .i64 p)) ⟨rfl, rfl, rfl⟩ ?_
  rintro p s hp hb ⟨e0, e1, e5⟩
  rcases Nat.lt_or_ge p l.length with hlt | hge
  · obtain ⟨x, hx, hp0, hpl, hw, hT, hD⟩ := idx hlt (by omega)
    have hg := U_get hx
    simp (maxSteps := 400000) (dsimp := false) only [e0, e1, e5, hp0, hpl, U_len, axs, AThen, ABlock, dstsOk, AStep, callsF, AWant, aop, AS.ev, AS.put, upd, AS.bound, abin, aint, aload, astore, cellsAt, AV.cells, alen, elems, AV.int?, FPost, aresL, ares1, pack, afill, splice, Value.oneCell', Nat.reduceLT, Nat.reduceLeDiff, Nat.reduceEqDiff, Nat.reduceAdd, Nat.reduceMul, Nat.reduceSub, Nat.reduceBEq, Int.reduceLE, Int.reduceLT, Int.reduceToNat, Int.reduceNeg, Int.reduceEq, axt, ftK, ft3, pickP, AScope, AAll, pickQ, ftQ, inHeap, Ent.cells, RT, tys]
    refine ADraw.planR [] [(0, true), (1, true), (2, true), (3, true), (4, true), (5, true), (6, true), (7, true), (8, true)] [(0, false), (0, false), (0, false), (0, false), (0, false), (0, false), (0, false), (0, false), (0, false)] mixed (by kernel_rfl) (by kernel_rfl) ?_
    simp (maxSteps := 400000) (dsimp := false) only [e0, e1, e5, hg, hp0, hpl, U_len, hw, bne_self_eq_false, axs, AThen, ABlock, dstsOk, AStep, callsF, AWant, aop, AS.ev, AS.put, upd, AS.bound, abin, aint, aload, astore, cellsAt, AV.cells, alen, elems, AV.int?, FPost, aresL, ares1, pack, afill, splice, Value.oneCell', Nat.reduceLT, Nat.reduceLeDiff, Nat.reduceEqDiff, Nat.reduceAdd, Nat.reduceMul, Nat.reduceSub, Nat.reduceBEq, Int.reduceLE, Int.reduceLT, Int.reduceToNat, Int.reduceNeg, Int.reduceEq, axt, ftK, ft3, pickP, AScope, AAll, pickQ, ftQ, inHeap, Ent.cells, RT, tys]
    exact hlt
  · have hpl : ¬ (p : Int) < l.length := by omega
    simp (maxSteps := 400000) (dsimp := false) only [e0, e1, e5, hpl, U_len, axs, AThen, ABlock, dstsOk, AStep, callsF, AWant, aop, AS.ev, AS.put, upd, AS.bound, abin, aint, aload, astore, cellsAt, AV.cells, alen, elems, AV.int?, FPost, aresL, ares1, pack, afill, splice, Value.oneCell', Nat.reduceLT, Nat.reduceLeDiff, Nat.reduceEqDiff, Nat.reduceAdd, Nat.reduceMul, Nat.reduceSub, Nat.reduceBEq, Int.reduceLE, Int.reduceLT, Int.reduceToNat, Int.reduceNeg, Int.reduceEq, axt, ftK, ft3, pickP, AScope, AAll, pickQ, ftQ, inHeap, Ent.cells, RT, tys]
    exact ⟨_, rfl, Sees.sc⟩
end
end Go.Al
end
