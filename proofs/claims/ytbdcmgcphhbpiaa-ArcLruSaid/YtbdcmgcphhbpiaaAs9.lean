/- Adaptive replacement: another capacity, by the reference. Conditions: the rows are short. -/
import Derived.Test.YtbdcmgcphhbpiaaAs8
set_option linter.unusedVariables false
set_option linter.unusedSimpArgs false
set_option maxRecDepth 20000
set_option maxHeartbeats 3200000
-- axs, AThen, ABlock, dstsOk, AStep, callsF, AWant, aop, AS.ev, AS.put, upd, AS.bound, abin, aint, aload, astore, cellsAt, AV.cells, alen, elems, AV.int?, FPost, aresL, ares1, pack, afill, splice, Value.oneCell', Nat.reduceLT, Nat.reduceLeDiff, Nat.reduceEqDiff, Nat.reduceAdd, Nat.reduceMul, Nat.reduceSub, Nat.reduceBEq, Int.reduceLE, Int.reduceLT, Int.reduceToNat, Int.reduceNeg, Int.reduceEq, axt, ftK, pickP, AScope, AAll, pickQ, ftQ, inHeap, S6, tys: S6
namespace Go.Al
open Go.Proofs
theorem rAResize (s : ARC) (c : Int) (h1 : s.A.length ≤ 100000) (h2 : s.B.length ≤ 100000) (h3 : s.D.length ≤ 100000) (h4 : s.E.length ≤ 100000) (p0 : 0 ≤ s.P) :
    PCalls Try.prog 45 [SA s, .sc (.int .i64 c)] (.tup [SA (arcResize s c).1, .lst 1 (U (arcResize s c).2)]) := by
  obtain ⟨k0, k1⟩ := capOf_le c
  generalize hR : arcShrink (s.A.length + s.B.length) ⟨capOf c, (if capOf c < s.P then capOf c else s.P), s.A, s.B, s.D, s.E⟩ [] = R
  have hres : arcResize s c = (arcCut R.1, R.2) := by unfold arcResize; rw [hR]
  rw [hres]
  clear hres
  have hp : 0 ≤ (if capOf c < s.P then capOf c else s.P) := by split <;> omega
  obtain ⟨C0, P0, A, B, D, E⟩ := s
  simp only at h1 h2 h3 h4 p0 hR hp
  refine PCalls.intro2 Try.func45 rfl rfl Try.ntmps45 Try.results45 (by simp) fun n => ?_; simp (maxSteps := 400000) (dsimp := false) only [SA, axs, AThen, ABlock, dstsOk, AStep, callsF, AWant, aop, AS.ev, AS.put, upd, AS.bound, abin, aint, aload, astore, cellsAt, AV.cells, alen, elems, AV.int?, FPost, aresL, ares1, pack, afill, splice, Value.oneCell', Nat.reduceLT, Nat.reduceLeDiff, Nat.reduceEqDiff, Nat.reduceAdd, Nat.reduceMul, Nat.reduceSub, Nat.reduceBEq, Int.reduceLE, Int.reduceLT, Int.reduceToNat, Int.reduceNeg, Int.reduceEq, axt, ftK, pickP, AScope, AAll, pickQ, ftQ, inHeap, S6, tys]
  refine ACallK.strict rfl (rCap c) (by simp only [SeesL, axs, axt, AS.ev, AS.put, upd, inHeap, Nat.reduceLT, Nat.reduceEqDiff, Nat.reduceAdd, Nat.reduceBEq, S6]; repeat' (first | exact True.intro | exact Sees.sc | exact Sees.none | ((with_reducible refine Sees.same ?_) <;> simp [noIds, noIdsL, noIdsE, noIdsE_U, noIdsE_UU] <;> fail) | (refine Live.sees ?_ ?_ <;> first | assumption | (simp [noIdsE_U, noIdsE_UU] <;> fail)) | (refine Sees.obj ?_ ?_ ?_ <;> first | exact ⟨_, _, by assumption, rfl⟩ | (simp [U_len, UU_len] <;> fail) | (simp [noIdsE_U, noIdsE_UU] <;> fail) | (simp [U, UU, upd] <;> fail) | (simp [U, UU, upd, neS, *] <;> fail)) | (refine Sees.of_seen 3 ?_ <;> simp [seen, upd, noIdsE, noIdsL, noIds, U, UU, Nat.add_assoc] <;> fail) | refine Sees.agg ?_ | refine And.intro ?_ ?_ | simp only [SeesL])) ?_; simp (maxSteps := 400000) (dsimp := false) only [axs, AThen, ABlock, dstsOk, AStep, callsF, AWant, aop, AS.ev, AS.put, upd, AS.bound, abin, aint, aload, astore, cellsAt, AV.cells, alen, elems, AV.int?, FPost, aresL, ares1, pack, afill, splice, Value.oneCell', Nat.reduceLT, Nat.reduceLeDiff, Nat.reduceEqDiff, Nat.reduceAdd, Nat.reduceMul, Nat.reduceSub, Nat.reduceBEq, Int.reduceLE, Int.reduceLT, Int.reduceToNat, Int.reduceNeg, Int.reduceEq, axt, ftK, pickP, AScope, AAll, pickQ, ftQ, inHeap, S6, tys]
  generalize hC : capOf c = C at *
  generalize hP : (if C < P0 then C else P0) = P at *
  refine ALoop.falls (fun x : ARC × List Int => x.1.A.length + x.1.B.length) (fun x s => x.1.C = C ∧ x.1.P = P ∧ x.1.A.length + x.1.B.length + x.2.length = A.length + B.length ∧ x.1.A.length + x.1.B.length ≤ 200000 ∧ x.1.D.length + x.1.A.length + x.1.B.length ≤ 300000 ∧ x.1.E.length + x.1.A.length + x.1.B.length ≤ 300000 ∧ arcShrink (x.1.A.length + x.1.B.length) x.1 x.2 = R ∧ s.t 2 = .ptr n 6 0 0 ∧ s.t 4 = .ptr (n + 1) 6 0 0 ∧ s.H n = some (.obj 41 6 [[.sc (.int .i64 C), .sc (.int .i64 P), .lst 1 (U x.1.A), .lst 1 (U x.1.B), .lst 1 (U x.1.D), .lst 1 (U x.1.E)]] false) ∧ s.H (n + 1) = some (.obj 41 6 [[.sc (.int .i64 0), .sc (.int .i64 0), .sc (.slice none 0 0), .sc (.slice none 0 0), .sc (.slice none 0 0), .sc (.slice none 0 0)]] false) ∧ Live 34 1 s.H (U x.2) (s.t 6)) (⟨C, P, A, B, D, E⟩, []) ⟨rfl, rfl, by simp, by simp only; omega, by simp only; omega, by simp only; omega, hR, rfl, rfl, by simp [upd, neS], by simp [upd, neS], Live.nil⟩ ?_
  rintro ⟨⟨C', P', A', B', D', E'⟩, g⟩ s hb ⟨rfl, rfl, q1, q2, q3, q4, hS, e2, e4, en, en1, hv⟩
  simp only at q1 q2 q3 q4 hS en hv hp k0 k1 ⊢
  have hnn := hb _ _ en1
  have hne : (¬ n = s.n) ∧ (¬ s.n = n) ∧ (¬ n = s.n + 1) ∧ (¬ s.n + 1 = n) ∧ (¬ n = s.n + 1 + 1) ∧ (¬ s.n + 1 + 1 = n) ∧ (¬ n + 1 = s.n) ∧ (¬ s.n = n + 1) ∧ (¬ n + 1 = s.n + 1) ∧ (¬ s.n + 1 = n + 1) ∧ (¬ n + 1 = s.n + 1 + 1) ∧ (¬ s.n + 1 + 1 = n + 1) := by and_intros <;> omega
  have w0 : IntKind.i64.wrap ((A'.length : Int) + B'.length) = (A'.length : Int) + B'.length := wrap_in (by omega) (by omega)
  simp (maxSteps := 400000) (dsimp := false) only [AThen, ABlock, AScope, ax_skip, ax_label, ax_ret, ax_exit, ax_seq, ax_cond, ax_block, ax_scope, ACond_true, ACond_false, AS.ev, decide_true, decide_false, if_true, if_false, Nat.reduceEqDiff]
  refine ax_via (fun t => t.t 2 = .ptr n 6 0 0 ∧ t.t 4 = .ptr (n + 1) 6 0 0 ∧ t.t 27 = .sc (.bool (decide ((A'.length : Int) + B'.length > C'))) ∧ t.t 6 = s.t 6 ∧ t.H = s.H ∧ t.n = s.n) ?_ ?_
  · simp (maxSteps := 400000) (dsimp := false) only [e2, e4, en, en1, U_len, w0, axs, AThen, ABlock, dstsOk, AStep, callsF, AWant, aop, AS.ev, AS.put, upd, AS.bound, abin, aint, aload, astore, cellsAt, AV.cells, alen, elems, AV.int?, FPost, aresL, ares1, pack, afill, splice, Value.oneCell', Nat.reduceLT, Nat.reduceLeDiff, Nat.reduceEqDiff, Nat.reduceAdd, Nat.reduceMul, Nat.reduceSub, Nat.reduceBEq, Int.reduceLE, Int.reduceLT, Int.reduceToNat, Int.reduceNeg, Int.reduceEq, axt, ftK, pickP, AScope, AAll, pickQ, ftQ, inHeap, S6, tys]
  rintro t0 ⟨d2, d4, d27, d6, dH, dn⟩
  by_cases hc : (A'.length : Int) + B'.length > C'
  · obtain ⟨f, hf⟩ : ∃ f, A'.length + B'.length = f + 1 := ⟨A'.length + B'.length - 1, by omega⟩
    have hdn := shr_ne (s := ⟨C', P', A', B', D', E'⟩) k0 hp hc
    have hl1 := arcDem_len ⟨C', P', A', B', D', E'⟩ (decide ((A'.length : Int) > P' ∨ B' = []))
    have hl2 := arcDem_len2 (s := ⟨C', P', A', B', D', E'⟩) _ hdn
    have hcall := rAEvict ⟨C', P', A', B', D', E'⟩ (decide ((A'.length : Int) > P' ∨ B' = [])) (by show A'.length ≤ _; omega) (by show B'.length ≤ _; omega) (by show D'.length ≤ _; omega) (by show E'.length ≤ _; omega) hdn
    rw [hf] at hS
    simp only [arcShrink, if_neg (show ¬ ((A'.length : Int) + B'.length ≤ C') by omega)] at hS
    have hguard : ((A'.length : Int) > P' ∧ True ∧ decide ((A'.length : Int) > P' ∨ B' = []) = true) ∨ (¬ (A'.length : Int) > P' ∧ ((B'.length : Int) = 0) = True ∧ decide ((A'.length : Int) > P' ∨ B' = []) = true) ∨ (¬ (A'.length : Int) > P' ∧ ¬ (B'.length : Int) = 0 ∧ decide ((A'.length : Int) > P' ∨ B' = []) = false) := by
      by_cases g1 : (A'.length : Int) > P'
      · exact .inl ⟨g1, trivial, decide_eq_true (.inl g1)⟩
      · by_cases g2 : B' = []
        · exact .inr (.inl ⟨g1, eq_true (by rw [g2]; rfl), decide_eq_true (.inr g2)⟩)
        · exact .inr (.inr ⟨g1, by simpa using g2, decide_eq_false (by rintro (h | h); exact g1 h; exact g2 h)⟩)
    generalize hdc : decide ((A'.length : Int) > P' ∨ B' = []) = dc at *
    generalize arcDem ⟨C', P', A', B', D', E'⟩ dc = rc at *
    obtain ⟨⟨C2, P2, A2, B2, D2, E2⟩, k⟩ := rc
    simp only at hl1 hl2 hcall hS
    obtain ⟨hl2, rfl, rfl⟩ := hl2
    have hs : U (g ++ [k]) = U g ++ [[.sc (.int .u64 k)]] := U_snoc g k
    have hgl2 : (U g).length = g.length := U_len g
    simp (maxSteps := 400000) (dsimp := false) only [d27, hc, AThen, ABlock, AScope, ax_skip, ax_label, ax_ret, ax_exit, ax_seq, ax_cond, ax_block, ax_scope, ACond_true, ACond_false, AS.ev, decide_true, decide_false, if_true, if_false, Nat.reduceEqDiff]
    refine ax_via (fun t => t.t 2 = .ptr n 6 0 0 ∧ t.t 4 = .ptr (n + 1) 6 0 0 ∧ t.t 6 = s.t 6 ∧ t.t 7 = .ptr s.n 6 0 0 ∧ t.t 8 = .lst 1 (U [k]) ∧ t.H = upd (upd s.H s.n (some (.obj 41 6 [[.sc (.int .i64 0), .sc (.int .i64 0), .sc (.slice none 0 0), .sc (.slice none 0 0), .sc (.slice none 0 0), .sc (.slice none 0 0)]] false))) s.n (some (.obj 41 6 [[.sc (.int .i64 C2), .sc (.int .i64 P2), .lst 1 (U A2), .lst 1 (U B2), .lst 1 (U D2), .lst 1 (U E2)]] false)) ∧ t.n = s.n + 1) ?_ ?_
    · rcases hguard with ⟨g1, g2, rfl⟩ | ⟨g1, g2, rfl⟩ | ⟨g1, g2, rfl⟩
      all_goals
        simp (maxSteps := 400000) (dsimp := false) only [d2, d4, d6, dH, dn, en, en1, U_len, g1, g2, axs, AThen, ABlock, dstsOk, AStep, callsF, AWant, aop, AS.ev, AS.put, upd, AS.bound, abin, aint, aload, astore, cellsAt, AV.cells, alen, elems, AV.int?, FPost, aresL, ares1, pack, afill, splice, Value.oneCell', Nat.reduceLT, Nat.reduceLeDiff, Nat.reduceEqDiff, Nat.reduceAdd, Nat.reduceMul, Nat.reduceSub, Nat.reduceBEq, Int.reduceLE, Int.reduceLT, Int.reduceToNat, Int.reduceNeg, Int.reduceEq, axt, ftK, pickP, AScope, AAll, pickQ, ftQ, inHeap, S6, tys]
        refine ACallK.strict rfl (hcall) (by simp only [SeesL, SA, d2, d4, d6, dH, dn, en, en1, hne, axs, axt, AS.ev, AS.put, upd, inHeap, Nat.reduceLT, Nat.reduceEqDiff, Nat.reduceAdd, Nat.reduceBEq, S6]; repeat' (first | exact True.intro | exact Sees.sc | exact Sees.none | ((with_reducible refine Sees.same ?_) <;> simp [noIds, noIdsL, noIdsE, noIdsE_U, noIdsE_UU] <;> fail) | (refine Live.sees ?_ ?_ <;> first | assumption | (simp [noIdsE_U, noIdsE_UU] <;> fail)) | (refine Sees.obj ?_ ?_ ?_ <;> first | exact ⟨_, _, by assumption, rfl⟩ | (simp [U_len, UU_len] <;> fail) | (simp [noIdsE_U, noIdsE_UU] <;> fail) | (simp [U, UU, upd] <;> fail) | (simp [U, UU, upd, neS, *] <;> fail)) | (refine Sees.of_seen 3 ?_ <;> simp [seen, upd, noIdsE, noIdsL, noIds, U, UU, Nat.add_assoc] <;> fail) | refine Sees.agg ?_ | refine And.intro ?_ ?_ | simp only [SeesL])) ?_; simp (maxSteps := 400000) (dsimp := false) only [SA, d2, d4, d6, dH, dn, en, en1, hne, axs, AThen, ABlock, dstsOk, AStep, callsF, AWant, aop, AS.ev, AS.put, upd, AS.bound, abin, aint, aload, astore, cellsAt, AV.cells, alen, elems, AV.int?, FPost, aresL, ares1, pack, afill, splice, Value.oneCell', Nat.reduceLT, Nat.reduceLeDiff, Nat.reduceEqDiff, Nat.reduceAdd, Nat.reduceMul, Nat.reduceSub, Nat.reduceBEq, Int.reduceLE, Int.reduceLT, Int.reduceToNat, Int.reduceNeg, Int.reduceEq, axt, ftK, pickP, AScope, AAll, pickQ, ftQ, inHeap, S6, tys]
    rintro t ⟨f2, f4, f6, f7, f8, fH, fn⟩
    rcases hv.cases hb with ⟨h7, h8⟩ | ⟨id, hlt2, hne0, h7, h8⟩
    · have hUk : U [k] = [[.sc (.int .u64 k)]] := rfl
      simp (maxSteps := 400000) (dsimp := false) only [f2, f4, f6, f7, f8, fH, fn, h8, en, en1, hne, hUk, axs, AThen, ABlock, dstsOk, AStep, callsF, AWant, aop, AS.ev, AS.put, upd, AS.bound, abin, aint, aload, astore, cellsAt, AV.cells, alen, elems, AV.int?, FPost, aresL, ares1, pack, afill, splice, Value.oneCell', Nat.reduceLT, Nat.reduceLeDiff, Nat.reduceEqDiff, Nat.reduceAdd, Nat.reduceMul, Nat.reduceSub, Nat.reduceBEq, Int.reduceLE, Int.reduceLT, Int.reduceToNat, Int.reduceNeg, Int.reduceEq, axt, ftK, pickP, AScope, AAll, pickQ, ftQ, inHeap, S6, tys]
      all_goals
        refine ⟨(⟨C2, P2, A2, B2, D2, E2⟩, g ++ [k]), by show A2.length + B2.length < A'.length + B'.length; omega, rfl, rfl, by show A2.length + B2.length + (g ++ [k]).length = _; simp; omega, by show A2.length + B2.length ≤ _; omega, by show D2.length + A2.length + B2.length ≤ _; omega, by show E2.length + A2.length + B2.length ≤ _; omega, ?_, rfl, ?_⟩
        · show arcShrink (A2.length + B2.length) _ _ = R
          rw [show A2.length + B2.length = f by omega]; exact hS
        · rw [hs, h7]; exact Live.mk (by simp [upd, neS, hne]) rfl
    · have b1 : ((U g).length + 1) * 8 ≤ 140737488355328 := by omega
      have b2 : g.length ≤ 1099511627775 := by omega
      have b3 : (g.length + 1) * 8 ≤ 140737488355328 ↔ True := by simp; omega
      have b4 : g.length + 1 ≤ 17592186044416 := by omega
      have hid1 : ¬ id = n := by rintro rfl; rw [en] at h8; simp at h8
      have hid2 : ¬ id = n + 1 := by rintro rfl; rw [en1] at h8; simp at h8
      have hid : ¬ id = n ∧ ¬ n = id ∧ ¬ id = n + 1 ∧ ¬ n + 1 = id ∧ ¬ id = s.n + 1 ∧ ¬ s.n + 1 = id ∧ ¬ id = s.n ∧ ¬ s.n = id := by and_intros <;> omega
      rw [U_len] at h7
      have hUk : U [k] = [[.sc (.int .u64 k)]] := rfl
      simp (maxSteps := 400000) (dsimp := false) only [f2, f4, f6, f7, f8, fH, fn, h7, h8, en, en1, hne, hid, b2, b3, b4, U_len, hUk, axs, AThen, ABlock, dstsOk, AStep, callsF, AWant, aop, AS.ev, AS.put, upd, AS.bound, abin, aint, aload, astore, cellsAt, AV.cells, alen, elems, AV.int?, FPost, aresL, ares1, pack, afill, splice, Value.oneCell', Nat.reduceLT, Nat.reduceLeDiff, Nat.reduceEqDiff, Nat.reduceAdd, Nat.reduceMul, Nat.reduceSub, Nat.reduceBEq, Int.reduceLE, Int.reduceLT, Int.reduceToNat, Int.reduceNeg, Int.reduceEq, axt, ftK, pickP, AScope, AAll, pickQ, ftQ, inHeap, S6, tys]
      all_goals
        refine ⟨(⟨C2, P2, A2, B2, D2, E2⟩, g ++ [k]), by show A2.length + B2.length < A'.length + B'.length; omega, rfl, rfl, by show A2.length + B2.length + (g ++ [k]).length = _; simp; omega, by show A2.length + B2.length ≤ _; omega, by show D2.length + A2.length + B2.length ≤ _; omega, by show E2.length + A2.length + B2.length ≤ _; omega, ?_, rfl, ?_⟩
        · show arcShrink (A2.length + B2.length) _ _ = R
          rw [show A2.length + B2.length = f by omega]; exact hS
        · rw [hs]; exact Live.mk (by simp [upd, neS, hne]) (by simp [U_len])
  · have hres : R = (⟨C', P', A', B', D', E'⟩, g) := by
      rw [← hS]
      cases hsz : A'.length + B'.length with
      | zero => rfl
      | succ f => simp only [arcShrink]; rw [if_pos (by omega)]
    subst hres
    clear hS hR
    unfold arcCut
    have hA : (A'.length : Int) ≤ C' := by omega
    have hz : 0 ≤ C' - A'.length := by omega
    simp only
    simp (maxSteps := 400000) (dsimp := false) only [d27, hc, axs, AThen, ABlock, dstsOk, AStep, callsF, AWant, aop, AS.ev, AS.put, upd, AS.bound, abin, aint, aload, astore, cellsAt, AV.cells, alen, elems, AV.int?, FPost, aresL, ares1, pack, afill, splice, Value.oneCell', Nat.reduceLT, Nat.reduceLeDiff, Nat.reduceEqDiff, Nat.reduceAdd, Nat.reduceMul, Nat.reduceSub, Nat.reduceBEq, Int.reduceLE, Int.reduceLT, Int.reduceToNat, Int.reduceNeg, Int.reduceEq, axt, ftK, pickP, AScope, AAll, pickQ, ftQ, inHeap, S6, tys]
    refine ALoop.falls (fun x : List Int => x.length) (fun x s => x.length ≤ 300000 ∧ cutTo x (C' - A'.length) = cutTo D' (C' - A'.length) ∧ s.t 2 = .ptr n 6 0 0 ∧ s.t 4 = .ptr (n + 1) 6 0 0 ∧ s.H n = some (.obj 41 6 [[.sc (.int .i64 C'), .sc (.int .i64 P'), .lst 1 (U A'), .lst 1 (U B'), .lst 1 (U x), .lst 1 (U E')]] false) ∧ s.H (n + 1) = some (.obj 41 6 [[.sc (.int .i64 0), .sc (.int .i64 0), .sc (.slice none 0 0), .sc (.slice none 0 0), .sc (.slice none 0 0), .sc (.slice none 0 0)]] false) ∧ Live 34 1 s.H (U g) (s.t 6)) D' ⟨by omega, rfl, d2, d4, by rw [dH]; exact en, by rw [dH]; exact en1, by rw [dH, d6]; exact hv⟩ ?_
    clear d2 d4 d27 d6 dH dn t0 e2 e4 en en1 hv hnn hne hb s
    rintro x s hb ⟨r1, r2, e2, e4, en, en1, hv⟩
    have w0 : IntKind.i64.wrap ((A'.length : Int) + x.length) = (A'.length : Int) + x.length := wrap_in (by omega) (by omega)
    by_cases hc2 : (A'.length : Int) + x.length > C'
    · obtain ⟨v1, v2, v3⟩ := cutLast (l := x) (by omega) (by omega)
      simp (maxSteps := 400000) (dsimp := false) only [e2, e4, en, en1, U_len, w0, hc2, v1, v2, v3, U_take, axs, AThen, ABlock, dstsOk, AStep, callsF, AWant, aop, AS.ev, AS.put, upd, AS.bound, abin, aint, aload, astore, cellsAt, AV.cells, alen, elems, AV.int?, FPost, aresL, ares1, pack, afill, splice, Value.oneCell', Nat.reduceLT, Nat.reduceLeDiff, Nat.reduceEqDiff, Nat.reduceAdd, Nat.reduceMul, Nat.reduceSub, Nat.reduceBEq, Int.reduceLE, Int.reduceLT, Int.reduceToNat, Int.reduceNeg, Int.reduceEq, axt, ftK, pickP, AScope, AAll, pickQ, ftQ, inHeap, S6, tys]
      exact ⟨x.take (x.length - 1), by show (x.take (x.length - 1)).length < x.length; rw [take_len]; omega, by rw [take_len]; omega, (cutTo_step hz (by omega)).trans r2, rfl, hv.upd (by rw [en]; simp)⟩
    · have hx : x = cutTo D' (C' - A'.length) := by rw [← r2, cutTo_id (by omega)]
      subst hx
      have hxl := cutTo_len D' (C' - A'.length) hz
      simp (maxSteps := 400000) (dsimp := false) only [e2, e4, en, en1, U_len, w0, hc2, axs, AThen, ABlock, dstsOk, AStep, callsF, AWant, aop, AS.ev, AS.put, upd, AS.bound, abin, aint, aload, astore, cellsAt, AV.cells, alen, elems, AV.int?, FPost, aresL, ares1, pack, afill, splice, Value.oneCell', Nat.reduceLT, Nat.reduceLeDiff, Nat.reduceEqDiff, Nat.reduceAdd, Nat.reduceMul, Nat.reduceSub, Nat.reduceBEq, Int.reduceLE, Int.reduceLT, Int.reduceToNat, Int.reduceNeg, Int.reduceEq, axt, ftK, pickP, AScope, AAll, pickQ, ftQ, inHeap, S6, tys]
      generalize cutTo D' (C' - A'.length) = x at *
      have hz2 : 0 ≤ C' - x.length := by omega
      refine ALoop.falls (fun y : List Int => y.length) (fun y s => y.length ≤ 300000 ∧ cutTo y (C' - x.length) = cutTo E' (C' - x.length) ∧ s.t 2 = .ptr n 6 0 0 ∧ s.t 4 = .ptr (n + 1) 6 0 0 ∧ s.H n = some (.obj 41 6 [[.sc (.int .i64 C'), .sc (.int .i64 P'), .lst 1 (U A'), .lst 1 (U B'), .lst 1 (U x), .lst 1 (U y)]] false) ∧ s.H (n + 1) = some (.obj 41 6 [[.sc (.int .i64 0), .sc (.int .i64 0), .sc (.slice none 0 0), .sc (.slice none 0 0), .sc (.slice none 0 0), .sc (.slice none 0 0)]] false) ∧ Live 34 1 s.H (U g) (s.t 6)) E' ⟨by omega, rfl, e2, e4, en, en1, hv⟩ ?_
      clear e2 e4 en en1 hv hb s
      rintro y s hb ⟨r3, r4, e2, e4, en, en1, hv⟩
      have w0 : IntKind.i64.wrap ((x.length : Int) + y.length) = (x.length : Int) + y.length := wrap_in (by omega) (by omega)
      by_cases hc3 : (x.length : Int) + y.length > C'
      · have hy0 : (y.length : Int) > 0 := by omega
        obtain ⟨v1, v2, v3⟩ := cutLast (l := y) (by omega) (by omega)
        simp (maxSteps := 400000) (dsimp := false) only [e2, e4, en, en1, hc3, hy0, U_len, w0, v1, v2, v3, U_take, axs, AThen, ABlock, dstsOk, AStep, callsF, AWant, aop, AS.ev, AS.put, upd, AS.bound, abin, aint, aload, astore, cellsAt, AV.cells, alen, elems, AV.int?, FPost, aresL, ares1, pack, afill, splice, Value.oneCell', Nat.reduceLT, Nat.reduceLeDiff, Nat.reduceEqDiff, Nat.reduceAdd, Nat.reduceMul, Nat.reduceSub, Nat.reduceBEq, Int.reduceLE, Int.reduceLT, Int.reduceToNat, Int.reduceNeg, Int.reduceEq, axt, ftK, pickP, AScope, AAll, pickQ, ftQ, inHeap, S6, tys]
        exact ⟨y.take (y.length - 1), by show (y.take (y.length - 1)).length < y.length; rw [take_len]; omega, by rw [take_len]; omega, (cutTo_step hz2 (by omega)).trans r4, rfl, hv.upd (by rw [en]; simp)⟩
      · have hy : y = cutTo E' (C' - x.length) := by rw [← r4, cutTo_id (by omega)]
        rw [← hy]
        simp (maxSteps := 400000) (dsimp := false) only [e2, e4, en, en1, hc3, SA, U_len, w0, axs, AThen, ABlock, dstsOk, AStep, callsF, AWant, aop, AS.ev, AS.put, upd, AS.bound, abin, aint, aload, astore, cellsAt, AV.cells, alen, elems, AV.int?, FPost, aresL, ares1, pack, afill, splice, Value.oneCell', Nat.reduceLT, Nat.reduceLeDiff, Nat.reduceEqDiff, Nat.reduceAdd, Nat.reduceMul, Nat.reduceSub, Nat.reduceBEq, Int.reduceLE, Int.reduceLT, Int.reduceToNat, Int.reduceNeg, Int.reduceEq, axt, ftK, pickP, AScope, AAll, pickQ, ftQ, inHeap, S6, tys]
        refine ALoop.falls (fun _ : Unit => 0) (fun _ s => s.t 2 = .ptr n 6 0 0 ∧ s.t 4 = .ptr (n + 1) 6 0 0 ∧ s.H n = some (.obj 41 6 [[.sc (.int .i64 C'), .sc (.int .i64 P'), .lst 1 (U A'), .lst 1 (U B'), .lst 1 (U x), .lst 1 (U y)]] false) ∧ s.H (n + 1) = some (.obj 41 6 [[.sc (.int .i64 0), .sc (.int .i64 0), .sc (.slice none 0 0), .sc (.slice none 0 0), .sc (.slice none 0 0), .sc (.slice none 0 0)]] false) ∧ Live 34 1 s.H (U g) (s.t 6)) () ⟨e2, e4, en, en1, hv⟩ ?_
        clear e2 e4 en en1 hv hb s
        rintro _ s hb ⟨e2, e4, en, en1, hv⟩
        simp (maxSteps := 400000) (dsimp := false) only [e2, e4, en, en1, hc3, SA, U_len, w0, axs, AThen, ABlock, dstsOk, AStep, callsF, AWant, aop, AS.ev, AS.put, upd, AS.bound, abin, aint, aload, astore, cellsAt, AV.cells, alen, elems, AV.int?, FPost, aresL, ares1, pack, afill, splice, Value.oneCell', Nat.reduceLT, Nat.reduceLeDiff, Nat.reduceEqDiff, Nat.reduceAdd, Nat.reduceMul, Nat.reduceSub, Nat.reduceBEq, Int.reduceLE, Int.reduceLT, Int.reduceToNat, Int.reduceNeg, Int.reduceEq, axt, ftK, pickP, AScope, AAll, pickQ, ftQ, inHeap, S6, tys]
        refine ⟨_, rfl, Sees.tup ?_⟩
        simp only [SeesL]
        refine ⟨Sees.same (by simp [noIds, noIdsL, noIdsE_U, S6]), ?_, trivial⟩
        exact (hv.upd (by rw [en1]; simp)).sees (noIdsE_U _)
end Go.Al
