/- Numbers by keys, in slots: acts, one behind the other. Conditions: the numbers fit their kinds. -/
import Derived.Test.YtnojinpneojfeaaHx11
set_option linter.unusedVariables false
set_option linter.unusedSimpArgs false
set_option maxRecDepth 20000
set_option maxHeartbeats 1600000
-- axs, AThen, ABlock, dstsOk, AStep, callsF, AWant, aop, AS.ev, AS.put, upd, AS.bound, abin, aint, aload, astore, cellsAt, AV.cells, alen, elems, AV.int?, FPost, aresL, ares1, pack, afill, splice, Value.oneCell', Nat.reduceLT, Nat.reduceLeDiff, Nat.reduceEqDiff, Nat.reduceAdd, Nat.reduceMul, Nat.reduceSub, Nat.reduceBEq, Int.reduceLE, Int.reduceLT, Int.reduceToNat, Int.reduceNeg, Int.reduceEq, axt, ftK, pickP, AScope, AAll, pickQ, ftQ, inHeap, RT, Sl3.cells, tys: RT, Sl3.cells
-- NOIDS: noIdsE_TL, noIdsE_HA
-- LENS: TL_len, HA_len
namespace Go.Al
open Go.Proofs
/-- An act: its kind, a key, a number. -/
structure HAct where
  kind : Int
  key : Int
  n : Int
def HAct.cells (a : HAct) : List AV := [.sc (.int .u8 a.kind), .sc (.int .u64 a.key), .sc (.int .i32 a.n)]
def hDo (T : Tb) (a : HAct) : Tb × Bool := if a.kind.tmod 3 = 2 then hDel T a.key else (hPut T a.key a.n, false)
structure HAct.Fits (a : HAct) : Prop where
  k0 : 0 ≤ a.kind
  k1 : a.kind < 256
  key : Key a.key
def HA (l : List HAct) : List (List AV) := l.map HAct.cells
theorem HA_len (l : List HAct) : (HA l).length = l.length := by simp [HA]
theorem HA_get {l : List HAct} {p : Nat} {x : HAct} (h : l[p]? = some x) : (HA l)[p]? = some [.sc (.int .u8 x.kind), .sc (.int .u64 x.key), .sc (.int .i32 x.n)] := by simp [HA, h, HAct.cells]
theorem noIdsE_HA (l : List HAct) : noIdsE (HA l) = true := noIdsE_map _ (fun x => by simp [HAct.cells, noIdsL, noIds]) l
theorem hact_of {x : List Value} (h : FitK [some .u8, some .u64, some .i32] x) : ∃ a : HAct, a.Fits ∧ x.map AV.sc = a.cells := by
  simp only [FitK] at h
  obtain ⟨a, r, rfl, ha, b, r, rfl, hb, c, r, rfl, hc, rfl⟩ := h
  simp [Lit.wf, IntKind.min, IntKind.max, IntKind.signed, IntKind.bits] at ha hb
  exact ⟨⟨a, b, c⟩, ⟨ha.1, by show a < 256; omega, ⟨hb.1, by show b < _; omega⟩⟩, rfl⟩
theorem rows_HA {es : List (List Value)} (h : ∀ x ∈ es, FitK [some .u8, some .u64, some .i32] x) : ∃ l : List HAct, (es.map fun e => e.map AV.sc) = HA l ∧ (∀ a ∈ l, a.Fits) ∧ l.length = es.length :=
  rows_of HAct.cells HAct.Fits (fun x hx => hact_of hx) h
theorem HtTo.new {H H' : AH} {n n' a s : Nat} {T' : Tb} {x : Option AO} (h : HtTo (upd H n x) (n + 1) a s H' n' T') : HtTo H n a s H' n' T' := by
  obtain ⟨le, keep, s', h1, h2⟩ := h
  refine ⟨by omega, fun j hj hja hjs => (keep j (by omega) hja hjs).trans (upd_ne _ _ (by omega)), s', h1, ?_⟩
  rcases h2 with h | h
  · exact .inl h
  · exact .inr (by omega)
theorem cHtDo {H : AH} {n a s : Nat} {T : Tb} (h : HtH H n a s T (cnt T)) (ok : HOk T) (hsm : T.length ≤ 524288) (x : HAct) (hx : x.Fits) :
    HCalls Try.prog 16 [.ptr a 2 0 0, .agg x.cells] H n fun r H' n' => r = .sc (.bool (hDo T x).2) ∧ HtTo H n a s H' n' (hDo T x).1 := by
  refine HCalls.walk Try.func16 rfl rfl Try.ntmps16 Try.results16 (by simp) ?_; simp (maxSteps := 400000) (dsimp := false) only [HAct.cells, axs, AThen, ABlock, dstsOk, AStep, callsF, AWant, aop, AS.ev, AS.put, upd, AS.bound, abin, aint, aload, astore, cellsAt, AV.cells, alen, elems, AV.int?, FPost, aresL, ares1, pack, afill, splice, Value.oneCell', Nat.reduceLT, Nat.reduceLeDiff, Nat.reduceEqDiff, Nat.reduceAdd, Nat.reduceMul, Nat.reduceSub, Nat.reduceBEq, Int.reduceLE, Int.reduceLT, Int.reduceToNat, Int.reduceNeg, Int.reduceEq, axt, ftK, pickP, AScope, AAll, pickQ, ftQ, inHeap, RT, Sl3.cells, tys]
  by_cases h0 : x.kind.tmod 3 = 2
  · have hd : hDo T x = hDel T x.key := if_pos h0
    rw [hd]
    simp (maxSteps := 400000) (dsimp := false) only [h0, axs, AThen, ABlock, dstsOk, AStep, callsF, AWant, aop, AS.ev, AS.put, upd, AS.bound, abin, aint, aload, astore, cellsAt, AV.cells, alen, elems, AV.int?, FPost, aresL, ares1, pack, afill, splice, Value.oneCell', Nat.reduceLT, Nat.reduceLeDiff, Nat.reduceEqDiff, Nat.reduceAdd, Nat.reduceMul, Nat.reduceSub, Nat.reduceBEq, Int.reduceLE, Int.reduceLT, Int.reduceToNat, Int.reduceNeg, Int.reduceEq, axt, ftK, pickP, AScope, AAll, pickQ, ftQ, inHeap, RT, Sl3.cells, tys]
    refine ACallK.heap _ rfl (cHtDelete h.new ok hx.key) ?_
    rintro r H' n' ⟨rfl, hto⟩
    simp (maxSteps := 400000) (dsimp := false) only [axs, AThen, ABlock, dstsOk, AStep, callsF, AWant, aop, AS.ev, AS.put, upd, AS.bound, abin, aint, aload, astore, cellsAt, AV.cells, alen, elems, AV.int?, FPost, aresL, ares1, pack, afill, splice, Value.oneCell', Nat.reduceLT, Nat.reduceLeDiff, Nat.reduceEqDiff, Nat.reduceAdd, Nat.reduceMul, Nat.reduceSub, Nat.reduceBEq, Int.reduceLE, Int.reduceLT, Int.reduceToNat, Int.reduceNeg, Int.reduceEq, axt, ftK, pickP, AScope, AAll, pickQ, ftQ, inHeap, RT, Sl3.cells, tys]
    exact ⟨_, rfl, rfl, hto.new⟩
  · have hd : hDo T x = (hPut T x.key x.n, false) := if_neg h0
    rw [hd]
    simp (maxSteps := 400000) (dsimp := false) only [h0, axs, AThen, ABlock, dstsOk, AStep, callsF, AWant, aop, AS.ev, AS.put, upd, AS.bound, abin, aint, aload, astore, cellsAt, AV.cells, alen, elems, AV.int?, FPost, aresL, ares1, pack, afill, splice, Value.oneCell', Nat.reduceLT, Nat.reduceLeDiff, Nat.reduceEqDiff, Nat.reduceAdd, Nat.reduceMul, Nat.reduceSub, Nat.reduceBEq, Int.reduceLE, Int.reduceLT, Int.reduceToNat, Int.reduceNeg, Int.reduceEq, axt, ftK, pickP, AScope, AAll, pickQ, ftQ, inHeap, RT, Sl3.cells, tys]
    refine ACallK.heap _ rfl (cHtPut h.new ok hsm hx.key x.n) ?_
    rintro r H' n' ⟨rfl, hto⟩
    simp (maxSteps := 400000) (dsimp := false) only [axs, AThen, ABlock, dstsOk, AStep, callsF, AWant, aop, AS.ev, AS.put, upd, AS.bound, abin, aint, aload, astore, cellsAt, AV.cells, alen, elems, AV.int?, FPost, aresL, ares1, pack, afill, splice, Value.oneCell', Nat.reduceLT, Nat.reduceLeDiff, Nat.reduceEqDiff, Nat.reduceAdd, Nat.reduceMul, Nat.reduceSub, Nat.reduceBEq, Int.reduceLE, Int.reduceLT, Int.reduceToNat, Int.reduceNeg, Int.reduceEq, axt, ftK, pickP, AScope, AAll, pickQ, ftQ, inHeap, RT, Sl3.cells, tys]
    exact ⟨_, rfl, rfl, hto.new⟩
theorem rHtDo {T : Tb} (ok : HOk T) (hsm : T.length ≤ 524288) (x : HAct) (hx : x.Fits) :
    PCalls Try.prog 24 [RT T, .agg x.cells] (.tup [RT (hDo T x).1, .sc (.bool (hDo T x).2)]) := by
  refine PCalls.intro2 Try.func24 rfl rfl Try.ntmps24 Try.results24 (by simp) fun n => ?_; simp (maxSteps := 400000) (dsimp := false) only [HAct.cells, axs, AThen, ABlock, dstsOk, AStep, callsF, AWant, aop, AS.ev, AS.put, upd, AS.bound, abin, aint, aload, astore, cellsAt, AV.cells, alen, elems, AV.int?, FPost, aresL, ares1, pack, afill, splice, Value.oneCell', Nat.reduceLT, Nat.reduceLeDiff, Nat.reduceEqDiff, Nat.reduceAdd, Nat.reduceMul, Nat.reduceSub, Nat.reduceBEq, Int.reduceLE, Int.reduceLT, Int.reduceToNat, Int.reduceNeg, Int.reduceEq, axt, ftK, pickP, AScope, AAll, pickQ, ftQ, inHeap, RT, Sl3.cells, tys]
  by_cases h0 : x.kind.tmod 3 = 2
  · have hd : hDo T x = hDel T x.key := if_pos h0
    rw [hd]
    simp (maxSteps := 400000) (dsimp := false) only [h0, axs, AThen, ABlock, dstsOk, AStep, callsF, AWant, aop, AS.ev, AS.put, upd, AS.bound, abin, aint, aload, astore, cellsAt, AV.cells, alen, elems, AV.int?, FPost, aresL, ares1, pack, afill, splice, Value.oneCell', Nat.reduceLT, Nat.reduceLeDiff, Nat.reduceEqDiff, Nat.reduceAdd, Nat.reduceMul, Nat.reduceSub, Nat.reduceBEq, Int.reduceLE, Int.reduceLT, Int.reduceToNat, Int.reduceNeg, Int.reduceEq, axt, ftK, pickP, AScope, AAll, pickQ, ftQ, inHeap, RT, Sl3.cells, tys]
    refine ACallK.strict rfl (rHtDelete ok hx.key) (by simp only [SeesL, axs, axt, AS.ev, AS.put, upd, inHeap, Nat.reduceLT, Nat.reduceEqDiff, Nat.reduceAdd, Nat.reduceBEq, RT, Sl3.cells]; repeat' (first | exact True.intro | exact Sees.sc | exact Sees.none | ((with_reducible refine Sees.same ?_) <;> simp [noIds, noIdsL, noIdsE, noIdsE_U, noIdsE_UU, noIdsE_TL, noIdsE_HA] <;> fail) | (refine Live.sees ?_ ?_ <;> first | assumption | (simp [noIdsE_U, noIdsE_UU, noIdsE_TL, noIdsE_HA] <;> fail)) | (refine Sees.obj ?_ ?_ ?_ <;> first | exact ⟨_, _, by assumption, rfl⟩ | (simp [U_len, UU_len, TL_len, HA_len] <;> fail) | (simp [noIdsE_U, noIdsE_UU, noIdsE_TL, noIdsE_HA] <;> fail) | (simp [U, UU, upd] <;> fail) | (simp [U, UU, upd, neS, *] <;> fail)) | (refine Sees.of_seen 3 ?_ <;> simp [seen, upd, noIdsE, noIdsL, noIds, U, UU, Nat.add_assoc] <;> fail) | refine Sees.agg ?_ | refine And.intro ?_ ?_ | simp only [SeesL])) ?_; simp (maxSteps := 400000) (dsimp := false) only [axs, AThen, ABlock, dstsOk, AStep, callsF, AWant, aop, AS.ev, AS.put, upd, AS.bound, abin, aint, aload, astore, cellsAt, AV.cells, alen, elems, AV.int?, FPost, aresL, ares1, pack, afill, splice, Value.oneCell', Nat.reduceLT, Nat.reduceLeDiff, Nat.reduceEqDiff, Nat.reduceAdd, Nat.reduceMul, Nat.reduceSub, Nat.reduceBEq, Int.reduceLE, Int.reduceLT, Int.reduceToNat, Int.reduceNeg, Int.reduceEq, axt, ftK, pickP, AScope, AAll, pickQ, ftQ, inHeap, RT, Sl3.cells, tys]
    refine ⟨_, rfl, ?_⟩; simp (maxSteps := 400000) (dsimp := false) only [SeesL, axs, AThen, ABlock, dstsOk, AStep, callsF, AWant, aop, AS.ev, AS.put, upd, AS.bound, abin, aint, aload, astore, cellsAt, AV.cells, alen, elems, AV.int?, FPost, aresL, ares1, pack, afill, splice, Value.oneCell', Nat.reduceLT, Nat.reduceLeDiff, Nat.reduceEqDiff, Nat.reduceAdd, Nat.reduceMul, Nat.reduceSub, Nat.reduceBEq, Int.reduceLE, Int.reduceLT, Int.reduceToNat, Int.reduceNeg, Int.reduceEq, axt, ftK, pickP, AScope, AAll, pickQ, ftQ, inHeap, RT, Sl3.cells, tys] <;> repeat' (first | exact True.intro | exact Sees.sc | exact Sees.none | ((with_reducible refine Sees.same ?_) <;> simp [noIds, noIdsL, noIdsE, noIdsE_U, noIdsE_UU, noIdsE_TL, noIdsE_HA] <;> fail) | (refine Live.sees ?_ ?_ <;> first | assumption | (simp [noIdsE_U, noIdsE_UU, noIdsE_TL, noIdsE_HA] <;> fail)) | (refine Sees.obj ?_ ?_ ?_ <;> first | exact ⟨_, _, by assumption, rfl⟩ | (simp [U_len, UU_len, TL_len, HA_len] <;> fail) | (simp [noIdsE_U, noIdsE_UU, noIdsE_TL, noIdsE_HA] <;> fail) | (simp [U, UU, upd, neS] <;> fail) | (simp [U, UU, upd, neS, *] <;> fail)) | refine Sees.agg ?_ | refine Sees.tup ?_ | refine And.intro ?_ ?_ | simp only [SeesL])
  · have hd : hDo T x = (hPut T x.key x.n, false) := if_neg h0
    rw [hd]
    simp (maxSteps := 400000) (dsimp := false) only [h0, axs, AThen, ABlock, dstsOk, AStep, callsF, AWant, aop, AS.ev, AS.put, upd, AS.bound, abin, aint, aload, astore, cellsAt, AV.cells, alen, elems, AV.int?, FPost, aresL, ares1, pack, afill, splice, Value.oneCell', Nat.reduceLT, Nat.reduceLeDiff, Nat.reduceEqDiff, Nat.reduceAdd, Nat.reduceMul, Nat.reduceSub, Nat.reduceBEq, Int.reduceLE, Int.reduceLT, Int.reduceToNat, Int.reduceNeg, Int.reduceEq, axt, ftK, pickP, AScope, AAll, pickQ, ftQ, inHeap, RT, Sl3.cells, tys]
    refine ACallK.strict rfl (rHtPut ok hsm hx.key x.n) (by simp only [SeesL, axs, axt, AS.ev, AS.put, upd, inHeap, Nat.reduceLT, Nat.reduceEqDiff, Nat.reduceAdd, Nat.reduceBEq, RT, Sl3.cells]; repeat' (first | exact True.intro | exact Sees.sc | exact Sees.none | ((with_reducible refine Sees.same ?_) <;> simp [noIds, noIdsL, noIdsE, noIdsE_U, noIdsE_UU, noIdsE_TL, noIdsE_HA] <;> fail) | (refine Live.sees ?_ ?_ <;> first | assumption | (simp [noIdsE_U, noIdsE_UU, noIdsE_TL, noIdsE_HA] <;> fail)) | (refine Sees.obj ?_ ?_ ?_ <;> first | exact ⟨_, _, by assumption, rfl⟩ | (simp [U_len, UU_len, TL_len, HA_len] <;> fail) | (simp [noIdsE_U, noIdsE_UU, noIdsE_TL, noIdsE_HA] <;> fail) | (simp [U, UU, upd] <;> fail) | (simp [U, UU, upd, neS, *] <;> fail)) | (refine Sees.of_seen 3 ?_ <;> simp [seen, upd, noIdsE, noIdsL, noIds, U, UU, Nat.add_assoc] <;> fail) | refine Sees.agg ?_ | refine And.intro ?_ ?_ | simp only [SeesL])) ?_; simp (maxSteps := 400000) (dsimp := false) only [axs, AThen, ABlock, dstsOk, AStep, callsF, AWant, aop, AS.ev, AS.put, upd, AS.bound, abin, aint, aload, astore, cellsAt, AV.cells, alen, elems, AV.int?, FPost, aresL, ares1, pack, afill, splice, Value.oneCell', Nat.reduceLT, Nat.reduceLeDiff, Nat.reduceEqDiff, Nat.reduceAdd, Nat.reduceMul, Nat.reduceSub, Nat.reduceBEq, Int.reduceLE, Int.reduceLT, Int.reduceToNat, Int.reduceNeg, Int.reduceEq, axt, ftK, pickP, AScope, AAll, pickQ, ftQ, inHeap, RT, Sl3.cells, tys]
    refine ⟨_, rfl, ?_⟩; simp (maxSteps := 400000) (dsimp := false) only [SeesL, axs, AThen, ABlock, dstsOk, AStep, callsF, AWant, aop, AS.ev, AS.put, upd, AS.bound, abin, aint, aload, astore, cellsAt, AV.cells, alen, elems, AV.int?, FPost, aresL, ares1, pack, afill, splice, Value.oneCell', Nat.reduceLT, Nat.reduceLeDiff, Nat.reduceEqDiff, Nat.reduceAdd, Nat.reduceMul, Nat.reduceSub, Nat.reduceBEq, Int.reduceLE, Int.reduceLT, Int.reduceToNat, Int.reduceNeg, Int.reduceEq, axt, ftK, pickP, AScope, AAll, pickQ, ftQ, inHeap, RT, Sl3.cells, tys] <;> repeat' (first | exact True.intro | exact Sees.sc | exact Sees.none | ((with_reducible refine Sees.same ?_) <;> simp [noIds, noIdsL, noIdsE, noIdsE_U, noIdsE_UU, noIdsE_TL, noIdsE_HA] <;> fail) | (refine Live.sees ?_ ?_ <;> first | assumption | (simp [noIdsE_U, noIdsE_UU, noIdsE_TL, noIdsE_HA] <;> fail)) | (refine Sees.obj ?_ ?_ ?_ <;> first | exact ⟨_, _, by assumption, rfl⟩ | (simp [U_len, UU_len, TL_len, HA_len] <;> fail) | (simp [noIdsE_U, noIdsE_UU, noIdsE_TL, noIdsE_HA] <;> fail) | (simp [U, UU, upd, neS] <;> fail) | (simp [U, UU, upd, neS, *] <;> fail)) | refine Sees.agg ?_ | refine Sees.tup ?_ | refine And.intro ?_ ?_ | simp only [SeesL])
theorem hDo_ok {T : Tb} (ok : HOk T) (hsm : T.length ≤ 524288) (x : HAct) (hx : x.Fits) : HOk (hDo T x).1 ∧ cnt (hDo T x).1 ≤ cnt T + 1 ∧ ((hDo T x).1.length = T.length ∨ ((hDo T x).1.length = 2 * T.length ∧ 4 * (cnt (hDo T x).1) > 3 * T.length)) := by
  unfold hDo
  split
  · obtain ⟨p1, p2, p3, p4⟩ := del_all ok x.key
    refine ⟨p1, ?_, .inl p4⟩
    rw [p3]; split <;> omega
  · obtain ⟨p1, p2, p3, p4, p5⟩ := put_all ok hsm hx.key.1 hx.key.2 x.n
    obtain ⟨g1, g2, g3, g4, g5⟩ := putT_all ok hsm x.key
    refine ⟨p1, by show cnt (hPut T x.key x.n) ≤ _; rw [p3]; split <;> omega, ?_⟩
    show (hPut T x.key x.n).length = _ ∨ ((hPut T x.key x.n).length = _ ∧ 4 * cnt (hPut T x.key x.n) > _)
    rw [p4, p3]
    rcases g5 with g5 | ⟨g5, g6, g7⟩
    · exact .inl g5
    · refine .inr ⟨g5, ?_⟩
      rw [g7]
      simp
      omega
def hRun (l : List HAct) : Tb := l.foldl (fun T a => (hDo T a).1) (List.replicate 8 z3)
theorem hRun_snoc (l : List HAct) (a : HAct) : hRun (l ++ [a]) = (hDo (hRun l) a).1 := by simp [hRun]
theorem hRun_ok (l : List HAct) (hf : ∀ a ∈ l, a.Fits) (hl : l.length ≤ 10000) : HOk (hRun l) ∧ cnt (hRun l) ≤ l.length ∧ ((hRun l).length = 8 ∨ 3 * (hRun l).length < 8 * l.length) := by
  have gen : ∀ (l : List HAct) (T : Tb) (k : Nat), (∀ a ∈ l, a.Fits) → k + l.length ≤ 10000 → HOk T → cnt T ≤ k → (T.length = 8 ∨ 3 * T.length < 8 * k) → HOk (l.foldl (fun T a => (hDo T a).1) T) ∧ cnt (l.foldl (fun T a => (hDo T a).1) T) ≤ k + l.length ∧ ((l.foldl (fun T a => (hDo T a).1) T).length = 8 ∨ 3 * (l.foldl (fun T a => (hDo T a).1) T).length < 8 * (k + l.length)) := by
    intro l
    induction l with
    | nil => intro T k _ _ h1 h2 h3; exact ⟨h1, by simpa using h2, by simpa using h3⟩
    | cons a l ih =>
      intro T k hf hl h1 h2 h3
      rw [List.length_cons] at hl
      obtain ⟨g1, g2, g3⟩ := hDo_ok h1 (by omega) a (hf a (by simp))
      have := ih (hDo T a).1 (k + 1) (fun b hb => hf b (by simp [hb])) (by omega) g1 (by omega) (by omega)
      rw [List.length_cons, show k + (l.length + 1) = k + 1 + l.length by omega]
      exact this
  have := gen l (List.replicate 8 z3) 0 hf (by omega) empty_ok (by rw [empty_cnt]; omega) (.inl (by simp))
  rw [Nat.zero_add] at this
  exact this
end Go.Al
