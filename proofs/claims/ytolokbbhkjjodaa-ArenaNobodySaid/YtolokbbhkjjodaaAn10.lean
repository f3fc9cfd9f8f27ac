/- Slots that are taken and freed: acts, one behind the other, and the laws. Conditions: the numbers fit their kinds. -/
import Derived.Test.YtolokbbhkjjodaaAn9
set_option linter.unusedVariables false
set_option linter.unusedSimpArgs false
set_option maxRecDepth 20000
set_option maxHeartbeats 1600000
-- axs, AThen, ABlock, dstsOk, AStep, callsF, AWant, aop, AS.ev, AS.put, upd, AS.bound, abin, aint, aload, astore, cellsAt, AV.cells, alen, elems, AV.int?, FPost, aresL, ares1, pack, afill, splice, Value.oneCell', Nat.reduceLT, Nat.reduceLeDiff, Nat.reduceEqDiff, Nat.reduceAdd, Nat.reduceMul, Nat.reduceSub, Nat.reduceBEq, Int.reduceLE, Int.reduceLT, Int.reduceToNat, Int.reduceNeg, Int.reduceEq, axt, ftK, pickP, AScope, AAll, pickQ, ftQ, inHeap, RV, Nd.cells, tys: RV, Nd.cells
-- NOIDS: noIdsE_I32, noIdsE_ND, noIdsE_AA
-- LENS: I32_len, ND_len, AA_len
namespace Go.Al
open Go.Proofs
structure AAct.Fits (a : AAct) : Prop where
  k0 : 0 ≤ a.kind
  k1 : a.kind < 256
  i : I32ok a.i
theorem act_of {x : List Value} (h : FitK [some .u8, some .i32, some .u64, some .u64, some .i64, some .i64, some .i32, some .i32] x) : ∃ a : AAct, a.Fits ∧ x.map AV.sc = a.cells := by
  simp only [FitK] at h
  obtain ⟨a, r, rfl, ha, b, r, rfl, hb, c1, r, rfl, h1, c2, r, rfl, h2, c3, r, rfl, h3, c4, r, rfl, h4, c5, r, rfl, h5, c6, r, rfl, h6, rfl⟩ := h
  simp [Lit.wf, IntKind.min, IntKind.max, IntKind.signed, IntKind.bits] at ha hb
  exact ⟨⟨a, b, ⟨c1, c2, c3, c4, c5, c6⟩⟩, ⟨ha.1, by show a < 256; omega, ⟨hb.1, by show b ≤ _; omega⟩⟩, rfl⟩
theorem node_of {x : List Value} (h : FitK [some .u64, some .u64, some .i64, some .i64, some .i32, some .i32] x) : ∃ a : Nd, x.map AV.sc = a.cells := by
  simp only [FitK] at h
  obtain ⟨c1, r, rfl, h1, c2, r, rfl, h2, c3, r, rfl, h3, c4, r, rfl, h4, c5, r, rfl, h5, c6, r, rfl, h6, rfl⟩ := h
  exact ⟨⟨c1, c2, c3, c4, c5, c6⟩, rfl⟩
def AA (l : List AAct) : List (List AV) := l.map AAct.cells
theorem AA_len (l : List AAct) : (AA l).length = l.length := by simp [AA]
theorem AA_get {l : List AAct} {p : Nat} {x : AAct} (h : l[p]? = some x) : (AA l)[p]? = some [.sc (.int .u8 x.kind), .sc (.int .i32 x.i), .sc (.int .u64 x.nd.key), .sc (.int .u64 x.nd.val), .sc (.int .i64 x.nd.flag), .sc (.int .i64 x.nd.tag), .sc (.int .i32 x.nd.prev), .sc (.int .i32 x.nd.next)] := by simp [AA, h, AAct.cells]
theorem noIdsE_AA (l : List AAct) : noIdsE (AA l) = true := noIdsE_map _ (fun x => by simp [AAct.cells, noIdsL, noIds]) l
theorem rows_AA {es : List (List Value)} (h : ∀ x ∈ es, FitK [some .u8, some .i32, some .u64, some .u64, some .i64, some .i64, some .i32, some .i32] x) : ∃ l : List AAct, (es.map fun e => e.map AV.sc) = AA l ∧ (∀ a ∈ l, a.Fits) ∧ l.length = es.length :=
  rows_of AAct.cells AAct.Fits (fun x hx => act_of hx) h
theorem wfu8 {n : Int} (h : (Lit.int .u8 n).wf = true) : 0 ≤ n ∧ n < 256 := by
  simp [Lit.wf, IntKind.min, IntKind.max, IntKind.signed, IntKind.bits] at h
  omega
theorem wfi32 {n : Int} (h : (Lit.int .i32 n).wf = true) : I32ok n := by
  simp [Lit.wf, IntKind.min, IntKind.max, IntKind.signed, IntKind.bits] at h
  exact ⟨by omega, by omega⟩
theorem size5 {c : Int} (h0 : 0 ≤ c) (h1 : c < 256) : 0 ≤ c.tmod 5 ∧ c.tmod 5 < 5 ∧ IntKind.i64.wrap c = c ∧ IntKind.i64.wrap (1 + c.tmod 5) = 1 + c.tmod 5 := by
  have h2 := Int.tmod_nonneg 5 h0
  have h3 := Int.tmod_lt_of_pos c (show (0 : Int) < 5 by omega)
  exact ⟨h2, h3, wrap_in h0 (by omega), wrap_in (by omega) (by omega)⟩
theorem ArH.own_lt {H : AH} {n a s : Nat} {fv : AV} {A : AR} (h : ArH H n a s fv A) {j : Nat} (ho : ArOwn a s fv j) : j < n := by
  rcases ho with rfl | rfl | ⟨m, e⟩
  · exact h.la
  · exact h.ls
  · exact h.lf _ _ e
theorem cArRun (c : Int) (l : List AAct) (h0 : 0 ≤ c) (h1 : c < 256) (hl : l.length ≤ 1000) (hf : ∀ a ∈ l, a.Fits) (H : AH) (n : Nat) :
    HCalls Try.prog 9 [.sc (.int .u8 c), .lst 8 (AA l)] H n fun r H' n' => ∃ a s fv, r = .tup [.ptr a 4 0 0, RV (raRun c l), .sc (.bool true)] ∧ n ≤ n' ∧ (∀ j, j < n → H' j = H j) ∧ ArH H' n' a s fv (arnOf (raRun c l)) ∧ ∀ j, ArOwn a s fv j → n ≤ j := by
  obtain ⟨k1, k2, w1, w2⟩ := size5 h0 h1
  have hnew := arNew_of (1 + c.tmod 5)
  refine HCalls.walk Try.func9 rfl rfl Try.ntmps9 Try.results9 (by simp) ?_; simp (maxSteps := 400000) (dsimp := false) only [w1, w2, axs, AThen, ABlock, dstsOk, AStep, callsF, AWant, aop, AS.ev, AS.put, upd, AS.bound, abin, aint, aload, astore, cellsAt, AV.cells, alen, elems, AV.int?, FPost, aresL, ares1, pack, afill, splice, Value.oneCell', Nat.reduceLT, Nat.reduceLeDiff, Nat.reduceEqDiff, Nat.reduceAdd, Nat.reduceMul, Nat.reduceSub, Nat.reduceBEq, Int.reduceLE, Int.reduceLT, Int.reduceToNat, Int.reduceNeg, Int.reduceEq, axt, ftK, pickP, AScope, AAll, pickQ, ftQ, inHeap, RV, Nd.cells, tys]
  refine ACallK.heap _ rfl (cArNew (1 + c.tmod 5) _ _) ?_; rintro r' H' n' ⟨rfl, eH, en⟩; obtain rfl := eH.symm; obtain rfl := en.symm; clear eH en; simp (maxSteps := 400000) (dsimp := false) only [w1, w2, axs, AThen, ABlock, dstsOk, AStep, callsF, AWant, aop, AS.ev, AS.put, upd, AS.bound, abin, aint, aload, astore, cellsAt, AV.cells, alen, elems, AV.int?, FPost, aresL, ares1, pack, afill, splice, Value.oneCell', Nat.reduceLT, Nat.reduceLeDiff, Nat.reduceEqDiff, Nat.reduceAdd, Nat.reduceMul, Nat.reduceSub, Nat.reduceBEq, Int.reduceLE, Int.reduceLT, Int.reduceToNat, Int.reduceNeg, Int.reduceEq, axt, ftK, pickP, AScope, AAll, pickQ, ftQ, inHeap, RV, Nd.cells, tys]
  refine ACallK.strict rfl (rArNew (1 + c.tmod 5)) (by simp only [SeesL, axs, axt, AS.ev, AS.put, upd, inHeap, Nat.reduceLT, Nat.reduceEqDiff, Nat.reduceAdd, Nat.reduceBEq, RV, Nd.cells]; repeat' (first | exact True.intro | exact Sees.sc | exact Sees.none | ((with_reducible refine Sees.same ?_) <;> simp [noIds, noIdsL, noIdsE, noIdsE_U, noIdsE_UU, noIdsE_I32, noIdsE_ND, noIdsE_AA] <;> fail) | (refine Live.sees ?_ ?_ <;> first | assumption | (simp [noIdsE_U, noIdsE_UU, noIdsE_I32, noIdsE_ND, noIdsE_AA] <;> fail)) | (refine Sees.obj ?_ ?_ ?_ <;> first | exact ⟨_, _, by assumption, rfl⟩ | (simp [U_len, UU_len, I32_len, ND_len, AA_len] <;> fail) | (simp [noIdsE_U, noIdsE_UU, noIdsE_I32, noIdsE_ND, noIdsE_AA] <;> fail) | (simp [U, UU, upd] <;> fail) | (simp [U, UU, upd, neS, *] <;> fail)) | (refine Sees.of_seen 3 ?_ <;> simp [seen, upd, noIdsE, noIdsL, noIds, U, UU, Nat.add_assoc] <;> fail) | refine Sees.agg ?_ | refine And.intro ?_ ?_ | simp only [SeesL])) ?_; simp (maxSteps := 400000) (dsimp := false) only [axs, AThen, ABlock, dstsOk, AStep, callsF, AWant, aop, AS.ev, AS.put, upd, AS.bound, abin, aint, aload, astore, cellsAt, AV.cells, alen, elems, AV.int?, FPost, aresL, ares1, pack, afill, splice, Value.oneCell', Nat.reduceLT, Nat.reduceLeDiff, Nat.reduceEqDiff, Nat.reduceAdd, Nat.reduceMul, Nat.reduceSub, Nat.reduceBEq, Int.reduceLE, Int.reduceLT, Int.reduceToNat, Int.reduceNeg, Int.reduceEq, axt, ftK, pickP, AScope, AAll, pickQ, ftQ, inHeap, RV, Nd.cells, tys]
  refine ALoop.upto l.length (fun p t => t.t 1 = .lst 8 (AA l) ∧ t.t 5 = .ptr n 4 0 0 ∧ t.t 7 = .ptr (n + 1 + 1) 4 0 0 ∧ t.t 8 = .ptr (n + 1 + 1 + 1) 4 0 0 ∧ t.t 9 = .sc (.int .i64 p) ∧ n + 1 + 1 + 1 < t.n ∧ (∀ j, j < n → t.H j = H j) ∧ t.H n = some (.obj 28 4 [[.sc (.int .i64 0), .sc (.int .i64 0), .sc (.slice none 0 0), .sc (.slice none 0 0)]] false) ∧ t.H (n + 1 + 1 + 1) = some (.obj 28 4 [[.sc (.int .i64 (raRun c (l.take p)).len), .sc (.int .i64 (raRun c (l.take p)).ever), .lst 1 (I32 (raRun c (l.take p)).freed), .lst 6 (ND (raRun c (l.take p)).nodes)]] false) ∧ ∃ s fv, ArH t.H t.n (n + 1 + 1) s fv (arnOf (raRun c (l.take p))) ∧ ∀ j, ArOwn (n + 1 + 1) s fv j → n < j ∧ j ≠ n + 1 + 1 + 1) ⟨rfl, rfl, rfl, rfl, rfl, by show n + 1 + 1 + 1 < n + 1 + 1 + 1 + 1; omega, ?_, by simp [upd, neS], by simp [upd, neS]; exact ⟨rfl, rfl, rfl, rfl⟩, ?_⟩ ?_
  · intro j hj
    have : ¬ j = n ∧ ¬ j = n + 1 ∧ ¬ j = n + 1 + 1 ∧ ¬ j = n + 1 + 1 + 1 := by and_intros <;> omega
    simp [upd, this]
  · refine ⟨n + 1, .sc (.slice none 0 0), ?_, ?_⟩
    · show ArH _ _ _ _ _ (arnOf (raNew (1 + c.tmod 5)))
      rw [← hnew.1]
      refine (arNew_H (1 + c.tmod 5) (upd H n (some (.obj 28 4 [[.sc (.int .i64 0), .sc (.int .i64 0), .sc (.slice none 0 0), .sc (.slice none 0 0)]] false))) (n + 1)).keep (by show _ ≤ n + 1 + 1 + 1 + 1; omega) (fun j hj ho => ?_)
      have : ¬ j = n + 1 + 1 + 1 := by omega
      simp [upd, this]
    · rintro j (rfl | rfl | ⟨m, e⟩)
      · omega
      · omega
      · cases e
  · rintro p s hp hb ⟨e1, e5, e7, e8, e9, hlt3, hkH, en, eb, sl, fv, hA, hown⟩
    obtain ⟨ok, le1, le2⟩ := raRun_ok k1 k2 (l.take p)
    have hpl2 : (l.take p).length ≤ 1000 := by rw [List.length_take]; omega
    rcases Nat.lt_or_ge p l.length with hlt | hge
    · obtain ⟨x, hx, hp0, hpl, hw, hT, hD⟩ := idx hlt (by omega)
      have hg := AA_get hx
      have hsn := raRun_snoc c (l.take p) x
      rw [← hT] at hsn
      have hxf := hf x (List.mem_of_getElem? hx)
      obtain ⟨ok2, le3, le4⟩ := raRun_ok k1 k2 (l.take (p + 1))
      have hpl3 : (l.take (p + 1)).length ≤ 1000 := by rw [List.length_take]; omega
      have hdo := cArDoH hA ok (by omega) x hxf.i
      have hrdo := rArDo (raRun c (l.take p)) x hxf.i ok (by omega)
      rw [← hsn] at hdo hrdo
      generalize raRun c (l.take p) = R at *
      generalize raRun c (l.take (p + 1)) = R2 at *
      simp (maxSteps := 400000) (dsimp := false) only [e1, e5, e7, e8, e9, hpl, AA_len, hg, hp0, axs, AThen, ABlock, dstsOk, AStep, callsF, AWant, aop, AS.ev, AS.put, upd, AS.bound, abin, aint, aload, astore, cellsAt, AV.cells, alen, elems, AV.int?, FPost, aresL, ares1, pack, afill, splice, Value.oneCell', Nat.reduceLT, Nat.reduceLeDiff, Nat.reduceEqDiff, Nat.reduceAdd, Nat.reduceMul, Nat.reduceSub, Nat.reduceBEq, Int.reduceLE, Int.reduceLT, Int.reduceToNat, Int.reduceNeg, Int.reduceEq, axt, ftK, pickP, AScope, AAll, pickQ, ftQ, inHeap, RV, Nd.cells, tys]
      refine ACallK.heap _ rfl hdo ?_
      rintro r H' n' ⟨rfl, hle, hkeep, s', fv', hA', hown'⟩
      have eb' := (hkeep (n + 1 + 1 + 1) (by omega) (fun ho => (hown _ ho).2 rfl)).trans eb
      have en' := (hkeep n (by omega) (fun ho => by have := (hown _ ho).1; omega)).trans en
      have hno : ∀ j, ArOwn (n + 1 + 1) s' fv' j → n < j ∧ j ≠ n + 1 + 1 + 1 ∧ ¬ j = n + 1 + 1 + 1 ∧ ¬ j = n' := by
        intro j ho
        have h3 := hA'.own_lt ho
        rcases hown' j ho with h | h
        · have := hown j h
          exact ⟨this.1, this.2, this.2, by omega⟩
        · exact ⟨by omega, by omega, by omega, by omega⟩
      have hneq : ¬ n + 1 + 1 + 1 = n' ∧ ¬ n' = n + 1 + 1 + 1 ∧ ¬ n = n' ∧ ¬ n' = n := by and_intros <;> omega
      simp (maxSteps := 400000) (dsimp := false) only [e1, e5, e7, e8, e9, axs, AThen, ABlock, dstsOk, AStep, callsF, AWant, aop, AS.ev, AS.put, upd, AS.bound, abin, aint, aload, astore, cellsAt, AV.cells, alen, elems, AV.int?, FPost, aresL, ares1, pack, afill, splice, Value.oneCell', Nat.reduceLT, Nat.reduceLeDiff, Nat.reduceEqDiff, Nat.reduceAdd, Nat.reduceMul, Nat.reduceSub, Nat.reduceBEq, Int.reduceLE, Int.reduceLT, Int.reduceToNat, Int.reduceNeg, Int.reduceEq, axt, ftK, pickP, AScope, AAll, pickQ, ftQ, inHeap, RV, Nd.cells, tys]
      refine ADraw.planR [] [(0, true), (1, true), (2, true), (3, true), (4, true), (5, true), (6, true), (7, true), (8, true), (9, true), (10, true), (11, true), (12, true), (13, true)] [(0, false), (0, false), (0, false), (0, false), (0, false), (0, false), (0, false), (0, false), (0, false), (0, false), (0, false), (0, false), (0, false), (0, false)] mixed (by kernel_rfl) (by kernel_rfl) ?_
      simp (maxSteps := 400000) (dsimp := false) only [e1, e5, e7, e8, e9, hg, hp0, eb', axs, AThen, ABlock, dstsOk, AStep, callsF, AWant, aop, AS.ev, AS.put, upd, AS.bound, abin, aint, aload, astore, cellsAt, AV.cells, alen, elems, AV.int?, FPost, aresL, ares1, pack, afill, splice, Value.oneCell', Nat.reduceLT, Nat.reduceLeDiff, Nat.reduceEqDiff, Nat.reduceAdd, Nat.reduceMul, Nat.reduceSub, Nat.reduceBEq, Int.reduceLE, Int.reduceLT, Int.reduceToNat, Int.reduceNeg, Int.reduceEq, axt, ftK, pickP, AScope, AAll, pickQ, ftQ, inHeap, RV, Nd.cells, tys]
      refine ACallP.pure rfl (hrdo) ?_; simp (maxSteps := 400000) (dsimp := false) only [e1, e5, e7, e8, e9, hneq, eb', axs, AThen, ABlock, dstsOk, AStep, callsF, AWant, aop, AS.ev, AS.put, upd, AS.bound, abin, aint, aload, astore, cellsAt, AV.cells, alen, elems, AV.int?, FPost, aresL, ares1, pack, afill, splice, Value.oneCell', Nat.reduceLT, Nat.reduceLeDiff, Nat.reduceEqDiff, Nat.reduceAdd, Nat.reduceMul, Nat.reduceSub, Nat.reduceBEq, Int.reduceLE, Int.reduceLT, Int.reduceToNat, Int.reduceNeg, Int.reduceEq, axt, ftK, pickP, AScope, AAll, pickQ, ftQ, inHeap, RV, Nd.cells, tys]
      refine ADraw.planQR [] [10, 17] [(0, true), (1, true), (2, true), (3, true), (4, true), (5, true), (6, true), (7, true), (8, true), (9, true), (11, true), (10, true), (12, true), (13, true), (14, true), (15, true), (16, true), (18, true), (19, true), (17, true), (20, true), (21, true)] [(0, 0), (0, 0), (0, 0), (0, 0), (0, 0), (0, 0), (0, 0), (0, 0), (0, 0), (0, 0), (1, 0), (0, 2), (0, 0), (0, 0), (0, 0), (0, 0), (0, 0), (1, 0), (1, 0), (0, 2), (0, 0), (0, 0)] mixed (by kernel_rfl) (by kernel_rfl) ?_
      simp (maxSteps := 400000) (dsimp := false) only [e7, e8, bne_self_eq_false, axs, AThen, ABlock, dstsOk, AStep, callsF, AWant, aop, AS.ev, AS.put, upd, AS.bound, abin, aint, aload, astore, cellsAt, AV.cells, alen, elems, AV.int?, FPost, aresL, ares1, pack, afill, splice, Value.oneCell', Nat.reduceLT, Nat.reduceLeDiff, Nat.reduceEqDiff, Nat.reduceAdd, Nat.reduceMul, Nat.reduceSub, Nat.reduceBEq, Int.reduceLE, Int.reduceLT, Int.reduceToNat, Int.reduceNeg, Int.reduceEq, axt, ftK, pickP, AScope, AAll, pickQ, ftQ, inHeap, RV, Nd.cells, tys]
      refine AQuietK.intro rfl rfl (cRLive (R := R2) (s := s') (fv := fv') ?_) (fun _ _ => rfl) ?_
      · exact hA'.keep (by show n' ≤ n' + 1; omega) (fun j hj ho => by have := hno j ho; simp [upd, this])
      simp (maxSteps := 400000) (dsimp := false) only [e8, axs, AThen, ABlock, dstsOk, AStep, callsF, AWant, aop, AS.ev, AS.put, upd, AS.bound, abin, aint, aload, astore, cellsAt, AV.cells, alen, elems, AV.int?, FPost, aresL, ares1, pack, afill, splice, Value.oneCell', Nat.reduceLT, Nat.reduceLeDiff, Nat.reduceEqDiff, Nat.reduceAdd, Nat.reduceMul, Nat.reduceSub, Nat.reduceBEq, Int.reduceLE, Int.reduceLT, Int.reduceToNat, Int.reduceNeg, Int.reduceEq, axt, ftK, pickP, AScope, AAll, pickQ, ftQ, inHeap, RV, Nd.cells, tys]
      refine ACallP.pure rfl (rArLive R2 ok2 (by omega)) ?_; simp (maxSteps := 400000) (dsimp := false) only [e7, e8, axs, AThen, ABlock, dstsOk, AStep, callsF, AWant, aop, AS.ev, AS.put, upd, AS.bound, abin, aint, aload, astore, cellsAt, AV.cells, alen, elems, AV.int?, FPost, aresL, ares1, pack, afill, splice, Value.oneCell', Nat.reduceLT, Nat.reduceLeDiff, Nat.reduceEqDiff, Nat.reduceAdd, Nat.reduceMul, Nat.reduceSub, Nat.reduceBEq, Int.reduceLE, Int.reduceLT, Int.reduceToNat, Int.reduceNeg, Int.reduceEq, axt, ftK, pickP, AScope, AAll, pickQ, ftQ, inHeap, RV, Nd.cells, tys]
      refine AQuietK.intro rfl rfl (cRLen (R := R2) (s := s') (fv := fv') ?_ ok2) (fun _ _ => rfl) ?_
      · exact hA'.keep (by show n' ≤ n' + 1; omega) (fun j hj ho => by have := hno j ho; simp [upd, this])
      simp (maxSteps := 400000) (dsimp := false) only [e8, e9, hw, axs, AThen, ABlock, dstsOk, AStep, callsF, AWant, aop, AS.ev, AS.put, upd, AS.bound, abin, aint, aload, astore, cellsAt, AV.cells, alen, elems, AV.int?, FPost, aresL, ares1, pack, afill, splice, Value.oneCell', Nat.reduceLT, Nat.reduceLeDiff, Nat.reduceEqDiff, Nat.reduceAdd, Nat.reduceMul, Nat.reduceSub, Nat.reduceBEq, Int.reduceLE, Int.reduceLT, Int.reduceToNat, Int.reduceNeg, Int.reduceEq, axt, ftK, pickP, AScope, AAll, pickQ, ftQ, inHeap, RV, Nd.cells, tys]
      refine ⟨hlt, e1, e5, e7, by omega, ?_, ?_, s', fv', hA'.keep (by omega) (fun j hj ho => by have := hno j ho; simp [upd, this]), fun j ho => ⟨(hno j ho).1, (hno j ho).2.1⟩⟩
      · intro j hj
        have : ¬ j = n + 1 + 1 + 1 ∧ ¬ j = n' := by and_intros <;> omega
        simp only [this, if_false]
        rw [hkeep j (by omega) (fun ho => by have := (hown _ ho).1; omega)]
        exact hkH j hj
      · simp [hneq]
        exact en'
    · have hpl : ¬ (p : Int) < l.length := by omega
      rw [List.take_of_length_le hge] at hA eb
      simp (maxSteps := 400000) (dsimp := false) only [e1, e5, e7, e8, e9, hpl, AA_len, axs, AThen, ABlock, dstsOk, AStep, callsF, AWant, aop, AS.ev, AS.put, upd, AS.bound, abin, aint, aload, astore, cellsAt, AV.cells, alen, elems, AV.int?, FPost, aresL, ares1, pack, afill, splice, Value.oneCell', Nat.reduceLT, Nat.reduceLeDiff, Nat.reduceEqDiff, Nat.reduceAdd, Nat.reduceMul, Nat.reduceSub, Nat.reduceBEq, Int.reduceLE, Int.reduceLT, Int.reduceToNat, Int.reduceNeg, Int.reduceEq, axt, ftK, pickP, AScope, AAll, pickQ, ftQ, inHeap, RV, Nd.cells, tys]
      refine ADraw.planR [] [(0, true), (1, true), (2, true), (3, true), (4, true)] [(0, false), (0, false), (0, false), (0, false), (0, false)] mixed (by kernel_rfl) (by kernel_rfl) ?_
      simp (maxSteps := 400000) (dsimp := false) only [e1, e5, e7, e8, e9, eb, en, axs, AThen, ABlock, dstsOk, AStep, callsF, AWant, aop, AS.ev, AS.put, upd, AS.bound, abin, aint, aload, astore, cellsAt, AV.cells, alen, elems, AV.int?, FPost, aresL, ares1, pack, afill, splice, Value.oneCell', Nat.reduceLT, Nat.reduceLeDiff, Nat.reduceEqDiff, Nat.reduceAdd, Nat.reduceMul, Nat.reduceSub, Nat.reduceBEq, Int.reduceLE, Int.reduceLT, Int.reduceToNat, Int.reduceNeg, Int.reduceEq, axt, ftK, pickP, AScope, AAll, pickQ, ftQ, inHeap, RV, Nd.cells, tys]
      refine ⟨_, rfl, _, sl, fv, rfl, by omega, fun j hj => ?_, hA.keep (Nat.le_refl _) (fun j hj ho => ?_), fun j ho => by have := hown j ho; omega⟩
      · have : ¬ j = n := by omega
        rw [if_neg this]
        exact hkH j hj
      · have : ¬ j = n := by have := hown j ho; omega
        rw [upd_ne _ _ this]
end Go.Al
