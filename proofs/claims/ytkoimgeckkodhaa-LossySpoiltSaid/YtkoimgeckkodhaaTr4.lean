/- A small queue, a main one and ghosts: the reference evicts; queues where a key is used, or without it. Conditions: the rows are short. -/
import Derived.Test.YtkoimgeckkodhaaTr3
set_option linter.unusedVariables false
set_option linter.unusedSimpArgs false
set_option maxRecDepth 20000
set_option maxHeartbeats 3200000
-- axs, axw, aresL, afill, Value.oneCell', Nat.reduceLT, Nat.reduceLeDiff, Nat.reduceEqDiff, Nat.reduceAdd, Nat.reduceMul, Nat.reduceSub, Nat.reduceBEq, Int.reduceLE, Int.reduceLT, Int.reduceToNat, Int.reduceNeg, Int.reduceEq, axt, ftK, ft3, AAll, ftQ, T3, tys: T3
-- NOIDS: noIdsE_I3
-- LENS: I3_len
namespace Go.Al
open Go.Proofs
theorem s3shr_go {z : Int} {s : S3} {out : List Int} (h : (s.S.length : Int) + s.M.length > z) (hw : (s3one s).1.S.length + (s3one s).1.M.length + 1 = s.S.length + s.M.length) : s3shr z (s.S.length + s.M.length) s out = s3shr z ((s3one s).1.S.length + (s3one s).1.M.length) (s3one s).1 (out ++ [(s3one s).2]) := by
  rw [← hw]
  show (if _ then _ else _) = _
  rw [if_pos h]
theorem s3shr_stop {z : Int} {s : S3} {out : List Int} (f : Nat) (h : ¬ (s.S.length : Int) + s.M.length > z) : s3shr z f s out = (s, out) := by
  cases f with
  | zero => rfl
  | succ f =>
    show (if _ then _ else _) = _
    rw [if_neg h]
theorem see9e1a0 {p : Prop} (h : p := by repeat' (first | exact True.intro | exact Sees.sc | exact Sees.none | ((with_reducible refine Sees.same ?_) <;> simp [noIds, noIdsL, noIdsE, noIdsE_U, noIdsE_UU, noIdsE_I3] <;> fail) | (refine Live.sees ?_ ?_ <;> first | assumption | (simp [noIdsE_U, noIdsE_UU, noIdsE_I3] <;> fail)) | (refine Sees.obj ?_ ?_ ?_ <;> first | exact ⟨_, _, by assumption, rfl⟩ | (simp [U_len, UU_len, I3_len] <;> fail) | (simp [noIdsE_U, noIdsE_UU, noIdsE_I3] <;> fail) | (simp [U, UU, upd] <;> fail) | (simp [U, UU, upd, neS, *] <;> fail)) | (refine Sees.of_seen 3 ?_ <;> simp [seen, upd, noIdsE, noIdsL, noIds, U, UU, Nat.add_assoc] <;> fail) | refine Sees.agg ?_ | refine And.intro ?_ ?_ | simp only [SeesL])) : p := h
theorem r3shrink (s : S3) (z : Int) (hB : S3B s) (z0 : 0 ≤ z) (z1 : z ≤ 1048576) : PCalls Try.prog 92 [T3 s, .sc (.int .i64 z)] (.tup [T3 (s3shrink z s).1, .lst 1 (U (s3shrink z s).2)]) := by
  generalize hR : s3shrink z s = R
  have hle := hB.le
  refine PCalls.intro2 Try.func92 rfl rfl Try.ntmps92 Try.results92 (by simp) fun n => ?_; simp (maxSteps := 400000) (dsimp := false) only [axs, axw, aresL, afill, Value.oneCell', Nat.reduceLT, Nat.reduceLeDiff, Nat.reduceEqDiff, Nat.reduceAdd, Nat.reduceMul, Nat.reduceSub, Nat.reduceBEq, Int.reduceLE, Int.reduceLT, Int.reduceToNat, Int.reduceNeg, Int.reduceEq, axt, ftK, ft3, AAll, ftQ, T3, tys]
  refine ALoop.falls (fun x : S3 × List Int => x.1.S.length + x.1.M.length) (fun x t => t.t 1 = .sc (.int .i64 z) ∧ t.t 2 = .ptr n 4 0 0 ∧ t.t 4 = .ptr (n + 1) 4 0 0 ∧ n + 1 < t.n ∧ t.H n = some (.obj 41 4 [[.sc (.int .i64 x.1.C), .lst 2 (I3 x.1.S), .lst 2 (I3 x.1.M), .lst 1 (U x.1.G)]] false) ∧ t.H (n + 1) = some (.obj 41 4 [[.sc (.int .i64 0), .sc (.slice none 0 0), .sc (.slice none 0 0), .sc (.slice none 0 0)]] false) ∧ s3shr z (x.1.S.length + x.1.M.length) x.1 x.2 = R ∧ S3B x.1 ∧ x.2.length + (x.1.S.length + x.1.M.length) ≤ 1000 ∧ Live 54 1 t.H (U x.2) (t.t 6) ∧ ∀ id z o m, t.t 6 = .sl id z o m → n + 1 < id) (s, []) ⟨rfl, rfl, rfl, (by show n + 1 < n + 1 + 1; omega), (upd_ne _ _ (by omega)).trans (upd_same _ _ _), upd_same _ _ _, hR, hB, (by show 0 + (s.S.length + s.M.length) ≤ 1000; omega), Live.nil, fun id z o m e => (nomatch e)⟩ ?_
  rintro ⟨x, out⟩ t hb ⟨h1, h2, h4, hlt, hH, hH1, hx, hxB, hxl, hv, hid⟩
  simp only at hH hx hxB hxl hv
  clear hR hB hle
  have hle := hxB.le
  have c0 := hxB.c0
  have c1 := hxB.c1
  have hne : ¬ n = n + 1 ∧ ¬ n + 1 = n := by omega
  have ct := r3Target x.C c0 (by omega)
  have w1 : IntKind.i64.wrap ((x.S.length : Int) + x.M.length) = (x.S.length : Int) + x.M.length := wrap_in (by omega) (by omega)
  by_cases hc : (x.S.length : Int) + x.M.length > z
  · have hnn : x.S ≠ [] ∨ x.M ≠ [] := by
      by_cases e : x.S = []
      · right; intro e2; rw [e, e2] at hc; simp at hc; omega
      · exact .inl e
    obtain ⟨wB, wC, wP, wL⟩ := s3one_ok hxB hnn
    have hx2 := (s3shr_go (out := out) hc wL).symm.trans hx
    have hor : ((x.S.length : Int) ≥ tgt x.C ∧ s3one x = outS x) ∨ (¬ (x.S.length : Int) ≥ tgt x.C ∧ x.M = [] ∧ s3one x = outS x) ∨ (¬ (x.S.length : Int) ≥ tgt x.C ∧ x.M ≠ [] ∧ s3one x = outM x) := by
      unfold s3one
      by_cases a : (x.S.length : Int) ≥ tgt x.C
      · exact .inl ⟨a, if_pos (.inl a)⟩
      · by_cases b : x.M = []
        · exact .inr (.inl ⟨a, b, if_pos (.inr b)⟩)
        · exact .inr (.inr ⟨a, b, if_neg (fun h => h.elim a b)⟩)
    have hcS : s3one x = outS x → PCalls Try.prog 106 [T3 x] (.tup [T3 (s3one x).1, .sc (.int .u64 (s3one x).2)]) := fun e => by rw [e]; exact r3fromSmall _ x (Nat.le_refl _) hxB hnn
    have hcM : x.M ≠ [] → s3one x = outM x → PCalls Try.prog 107 [T3 x] (.tup [T3 (s3one x).1, .sc (.int .u64 (s3one x).2)]) := fun e0 e => by rw [e]; exact r3fromMain _ x.C x.S x.M x.G (Nat.le_refl _) e0 (by omega) (fun y hy => (hxB.fm y hy).2)
    clear wP
    generalize hO : s3one x = O at *
    obtain ⟨y, k⟩ := O
    simp only at wB wC wL hx2 hcS hcM
    have b1 : (out.length + 1) * 8 ≤ 140737488355328 := by omega
    have b2 : out.length + 1 ≤ 1099511627776 := by omega
    have hsn : U (out ++ [k]) = U out ++ [[.sc (.int .u64 k)]] := U_snoc out k
    have hne3 : (¬ n = t.n ∧ ¬ n + 1 = t.n) ∧ (¬ n = t.n + 1 ∧ ¬ n + 1 = t.n + 1) ∧ (¬ t.n = n ∧ ¬ t.n + 1 = n) ∧ (¬ t.n = n + 1 ∧ ¬ t.n + 1 = n + 1) ∧ (¬ n = t.n + 1 + 1 ∧ ¬ n + 1 = t.n + 1 + 1) := by omega
    have hm0 : x.M = [] → ((x.M.length : Nat) : Int) = 0 := fun e => by rw [e]; rfl
    have hm1 : x.M ≠ [] → ¬ ((x.M.length : Nat) : Int) = 0 := fun e => by
      have := List.length_pos_iff.2 e
      omega
    rcases hv.cases hb with ⟨e1, e2⟩ | ⟨id, i1, i2, e1, e2⟩
    · obtain rfl : out = [] := by simpa [U] using e1
      rcases hor with ⟨q1, q2⟩ | ⟨q1, q2, q3⟩ | ⟨q1, q2, q3⟩
      · have hcall := hcS q2
        unfold T3 at hcall
        simp (maxSteps := 400000) (dsimp := false) only [h1, h2, h4, hH, I3_len, w1, hc, axs, axw, aresL, afill, Value.oneCell', Nat.reduceLT, Nat.reduceLeDiff, Nat.reduceEqDiff, Nat.reduceAdd, Nat.reduceMul, Nat.reduceSub, Nat.reduceBEq, Int.reduceLE, Int.reduceLT, Int.reduceToNat, Int.reduceNeg, Int.reduceEq, axt, ftK, ft3, AAll, ftQ, T3, tys]
        refine ADraw.planR [] [(0, true), (1, true), (2, true), (3, true), (4, true), (5, true), (6, true), (7, true), (8, true), (9, true), (10, true), (11, true), (12, true)] [(0, false), (0, false), (0, false), (0, false), (0, false), (0, false), (0, false), (0, false), (0, false), (0, false), (0, false), (0, false), (0, false)] mixed (by kernel_rfl) (by kernel_rfl) ?_
        simp (maxSteps := 400000) (dsimp := false) only [h1, h2, h4, hH, I3_len, axs, axw, aresL, afill, Value.oneCell', Nat.reduceLT, Nat.reduceLeDiff, Nat.reduceEqDiff, Nat.reduceAdd, Nat.reduceMul, Nat.reduceSub, Nat.reduceBEq, Int.reduceLE, Int.reduceLT, Int.reduceToNat, Int.reduceNeg, Int.reduceEq, axt, ftK, ft3, AAll, ftQ, T3, tys]
        refine ACallP.pure rfl (ct) ?_; simp (maxSteps := 400000) (dsimp := false) only [h1, h2, h4, hH, I3_len, q1, axs, axw, aresL, afill, Value.oneCell', Nat.reduceLT, Nat.reduceLeDiff, Nat.reduceEqDiff, Nat.reduceAdd, Nat.reduceMul, Nat.reduceSub, Nat.reduceBEq, Int.reduceLE, Int.reduceLT, Int.reduceToNat, Int.reduceNeg, Int.reduceEq, axt, ftK, ft3, AAll, ftQ, T3, tys]
        refine ACallK.strict rfl (hcall) (by simp only [SeesL, h1, h2, h4, hH, hH1, hne, hne3, e2, axs, axt, AS.ev, AS.put, upd, inHeap, Nat.reduceLT, Nat.reduceEqDiff, Nat.reduceAdd, Nat.reduceBEq, T3]; exact see9e1a0) ?_; simp (maxSteps := 400000) (dsimp := false) only [h1, h2, h4, hH, hH1, hne, hne3, e2, axs, axw, aresL, afill, Value.oneCell', Nat.reduceLT, Nat.reduceLeDiff, Nat.reduceEqDiff, Nat.reduceAdd, Nat.reduceMul, Nat.reduceSub, Nat.reduceBEq, Int.reduceLE, Int.reduceLT, Int.reduceToNat, Int.reduceNeg, Int.reduceEq, axt, ftK, ft3, AAll, ftQ, T3, tys]
        refine ⟨(y, [] ++ [k]), by show y.S.length + y.M.length < _; omega, by omega, rfl, hx2, wB, by show ([] ++ [k]).length + (y.S.length + y.M.length) ≤ 1000; rw [List.length_append, List.length_singleton]; simp only [List.length_nil] at *; omega, ?_, fun id z o m e => by cases e; omega⟩
        exact Live.mk (upd_same _ _ _) rfl
      · have hcall := hcS q3
        have q4 := hm0 q2
        unfold T3 at hcall
        simp (maxSteps := 400000) (dsimp := false) only [h1, h2, h4, hH, I3_len, w1, hc, axs, axw, aresL, afill, Value.oneCell', Nat.reduceLT, Nat.reduceLeDiff, Nat.reduceEqDiff, Nat.reduceAdd, Nat.reduceMul, Nat.reduceSub, Nat.reduceBEq, Int.reduceLE, Int.reduceLT, Int.reduceToNat, Int.reduceNeg, Int.reduceEq, axt, ftK, ft3, AAll, ftQ, T3, tys]
        refine ADraw.planR [] [(0, true), (1, true), (2, true), (3, true), (4, true), (5, true), (6, true), (7, true), (8, true), (9, true), (10, true), (11, true), (12, true)] [(0, false), (0, false), (0, false), (0, false), (0, false), (0, false), (0, false), (0, false), (0, false), (0, false), (0, false), (0, false), (0, false)] mixed (by kernel_rfl) (by kernel_rfl) ?_
        simp (maxSteps := 400000) (dsimp := false) only [h1, h2, h4, hH, I3_len, axs, axw, aresL, afill, Value.oneCell', Nat.reduceLT, Nat.reduceLeDiff, Nat.reduceEqDiff, Nat.reduceAdd, Nat.reduceMul, Nat.reduceSub, Nat.reduceBEq, Int.reduceLE, Int.reduceLT, Int.reduceToNat, Int.reduceNeg, Int.reduceEq, axt, ftK, ft3, AAll, ftQ, T3, tys]
        refine ACallP.pure rfl (ct) ?_; simp (maxSteps := 400000) (dsimp := false) only [h1, h2, h4, hH, I3_len, q1, eq_true q4, axs, axw, aresL, afill, Value.oneCell', Nat.reduceLT, Nat.reduceLeDiff, Nat.reduceEqDiff, Nat.reduceAdd, Nat.reduceMul, Nat.reduceSub, Nat.reduceBEq, Int.reduceLE, Int.reduceLT, Int.reduceToNat, Int.reduceNeg, Int.reduceEq, axt, ftK, ft3, AAll, ftQ, T3, tys]
        refine ACallK.strict rfl (hcall) (by simp only [SeesL, h1, h2, h4, hH, hH1, hne, hne3, e2, axs, axt, AS.ev, AS.put, upd, inHeap, Nat.reduceLT, Nat.reduceEqDiff, Nat.reduceAdd, Nat.reduceBEq, T3]; exact see9e1a0) ?_; simp (maxSteps := 400000) (dsimp := false) only [h1, h2, h4, hH, hH1, hne, hne3, e2, axs, axw, aresL, afill, Value.oneCell', Nat.reduceLT, Nat.reduceLeDiff, Nat.reduceEqDiff, Nat.reduceAdd, Nat.reduceMul, Nat.reduceSub, Nat.reduceBEq, Int.reduceLE, Int.reduceLT, Int.reduceToNat, Int.reduceNeg, Int.reduceEq, axt, ftK, ft3, AAll, ftQ, T3, tys]
        refine ⟨(y, [] ++ [k]), by show y.S.length + y.M.length < _; omega, by omega, rfl, hx2, wB, by show ([] ++ [k]).length + (y.S.length + y.M.length) ≤ 1000; rw [List.length_append, List.length_singleton]; simp only [List.length_nil] at *; omega, ?_, fun id z o m e => by cases e; omega⟩
        exact Live.mk (upd_same _ _ _) rfl
      · have hcall := hcM q2 q3
        have q4 := hm1 q2
        unfold T3 at hcall
        simp (maxSteps := 400000) (dsimp := false) only [h1, h2, h4, hH, I3_len, w1, hc, axs, axw, aresL, afill, Value.oneCell', Nat.reduceLT, Nat.reduceLeDiff, Nat.reduceEqDiff, Nat.reduceAdd, Nat.reduceMul, Nat.reduceSub, Nat.reduceBEq, Int.reduceLE, Int.reduceLT, Int.reduceToNat, Int.reduceNeg, Int.reduceEq, axt, ftK, ft3, AAll, ftQ, T3, tys]
        refine ADraw.planR [] [(0, true), (1, true), (2, true), (3, true), (4, true), (5, true), (6, true), (7, true), (8, true), (9, true), (10, true), (11, true), (12, true)] [(0, false), (0, false), (0, false), (0, false), (0, false), (0, false), (0, false), (0, false), (0, false), (0, false), (0, false), (0, false), (0, false)] mixed (by kernel_rfl) (by kernel_rfl) ?_
        simp (maxSteps := 400000) (dsimp := false) only [h1, h2, h4, hH, I3_len, axs, axw, aresL, afill, Value.oneCell', Nat.reduceLT, Nat.reduceLeDiff, Nat.reduceEqDiff, Nat.reduceAdd, Nat.reduceMul, Nat.reduceSub, Nat.reduceBEq, Int.reduceLE, Int.reduceLT, Int.reduceToNat, Int.reduceNeg, Int.reduceEq, axt, ftK, ft3, AAll, ftQ, T3, tys]
        refine ACallP.pure rfl (ct) ?_; simp (maxSteps := 400000) (dsimp := false) only [h1, h2, h4, hH, I3_len, q1, eq_false q4, axs, axw, aresL, afill, Value.oneCell', Nat.reduceLT, Nat.reduceLeDiff, Nat.reduceEqDiff, Nat.reduceAdd, Nat.reduceMul, Nat.reduceSub, Nat.reduceBEq, Int.reduceLE, Int.reduceLT, Int.reduceToNat, Int.reduceNeg, Int.reduceEq, axt, ftK, ft3, AAll, ftQ, T3, tys]
        refine ACallK.strict rfl (hcall) (by simp only [SeesL, h1, h2, h4, hH, hH1, hne, hne3, e2, axs, axt, AS.ev, AS.put, upd, inHeap, Nat.reduceLT, Nat.reduceEqDiff, Nat.reduceAdd, Nat.reduceBEq, T3]; exact see9e1a0) ?_; simp (maxSteps := 400000) (dsimp := false) only [h1, h2, h4, hH, hH1, hne, hne3, e2, axs, axw, aresL, afill, Value.oneCell', Nat.reduceLT, Nat.reduceLeDiff, Nat.reduceEqDiff, Nat.reduceAdd, Nat.reduceMul, Nat.reduceSub, Nat.reduceBEq, Int.reduceLE, Int.reduceLT, Int.reduceToNat, Int.reduceNeg, Int.reduceEq, axt, ftK, ft3, AAll, ftQ, T3, tys]
        refine ⟨(y, [] ++ [k]), by show y.S.length + y.M.length < _; omega, by omega, rfl, hx2, wB, by show ([] ++ [k]).length + (y.S.length + y.M.length) ≤ 1000; rw [List.length_append, List.length_singleton]; simp only [List.length_nil] at *; omega, ?_, fun id z o m e => by cases e; omega⟩
        exact Live.mk (upd_same _ _ _) rfl
    · have hid2 := hid _ _ _ _ e1
      rw [U_len] at e1
      have hn4 : (¬ id = t.n ∧ ¬ t.n = id ∧ ¬ id = t.n + 1 ∧ ¬ t.n + 1 = id ∧ ¬ id = t.n + 1 + 1 ∧ ¬ t.n + 1 + 1 = id) ∧ (¬ id = n ∧ ¬ n = id ∧ ¬ id = n + 1 ∧ ¬ n + 1 = id) := by omega
      rcases hor with ⟨q1, q2⟩ | ⟨q1, q2, q3⟩ | ⟨q1, q2, q3⟩
      · have hcall := hcS q2
        unfold T3 at hcall
        simp (maxSteps := 400000) (dsimp := false) only [h1, h2, h4, hH, I3_len, w1, hc, axs, axw, aresL, afill, Value.oneCell', Nat.reduceLT, Nat.reduceLeDiff, Nat.reduceEqDiff, Nat.reduceAdd, Nat.reduceMul, Nat.reduceSub, Nat.reduceBEq, Int.reduceLE, Int.reduceLT, Int.reduceToNat, Int.reduceNeg, Int.reduceEq, axt, ftK, ft3, AAll, ftQ, T3, tys]
        refine ADraw.planR [] [(0, true), (1, true), (2, true), (3, true), (4, true), (5, true), (6, true), (7, true), (8, true), (9, true), (10, true), (11, true), (12, true)] [(0, false), (0, false), (0, false), (0, false), (0, false), (0, false), (0, false), (0, false), (0, false), (0, false), (0, false), (0, false), (0, false)] mixed (by kernel_rfl) (by kernel_rfl) ?_
        simp (maxSteps := 400000) (dsimp := false) only [h1, h2, h4, hH, I3_len, axs, axw, aresL, afill, Value.oneCell', Nat.reduceLT, Nat.reduceLeDiff, Nat.reduceEqDiff, Nat.reduceAdd, Nat.reduceMul, Nat.reduceSub, Nat.reduceBEq, Int.reduceLE, Int.reduceLT, Int.reduceToNat, Int.reduceNeg, Int.reduceEq, axt, ftK, ft3, AAll, ftQ, T3, tys]
        refine ACallP.pure rfl (ct) ?_; simp (maxSteps := 400000) (dsimp := false) only [h1, h2, h4, hH, I3_len, q1, axs, axw, aresL, afill, Value.oneCell', Nat.reduceLT, Nat.reduceLeDiff, Nat.reduceEqDiff, Nat.reduceAdd, Nat.reduceMul, Nat.reduceSub, Nat.reduceBEq, Int.reduceLE, Int.reduceLT, Int.reduceToNat, Int.reduceNeg, Int.reduceEq, axt, ftK, ft3, AAll, ftQ, T3, tys]
        refine ACallK.strict rfl (hcall) (by simp only [SeesL, h1, h2, h4, hH, hH1, hne, hne3, e1, e2, hn4, b1, b2, U_len, axs, axt, AS.ev, AS.put, upd, inHeap, Nat.reduceLT, Nat.reduceEqDiff, Nat.reduceAdd, Nat.reduceBEq, T3]; exact see9e1a0) ?_; simp (maxSteps := 400000) (dsimp := false) only [h1, h2, h4, hH, hH1, hne, hne3, e1, e2, hn4, b1, b2, U_len, axs, axw, aresL, afill, Value.oneCell', Nat.reduceLT, Nat.reduceLeDiff, Nat.reduceEqDiff, Nat.reduceAdd, Nat.reduceMul, Nat.reduceSub, Nat.reduceBEq, Int.reduceLE, Int.reduceLT, Int.reduceToNat, Int.reduceNeg, Int.reduceEq, axt, ftK, ft3, AAll, ftQ, T3, tys]
        refine ⟨(y, out ++ [k]), by show y.S.length + y.M.length < _; omega, by omega, rfl, hx2, wB, by show (out ++ [k]).length + (y.S.length + y.M.length) ≤ 1000; rw [List.length_append, List.length_singleton]; omega, ?_, fun id z o m e => by cases e; omega⟩
        rw [hsn]; exact Live.mk (upd_same _ _ _) (by simp [U_len])
      · have hcall := hcS q3
        have q4 := hm0 q2
        unfold T3 at hcall
        simp (maxSteps := 400000) (dsimp := false) only [h1, h2, h4, hH, I3_len, w1, hc, axs, axw, aresL, afill, Value.oneCell', Nat.reduceLT, Nat.reduceLeDiff, Nat.reduceEqDiff, Nat.reduceAdd, Nat.reduceMul, Nat.reduceSub, Nat.reduceBEq, Int.reduceLE, Int.reduceLT, Int.reduceToNat, Int.reduceNeg, Int.reduceEq, axt, ftK, ft3, AAll, ftQ, T3, tys]
        refine ADraw.planR [] [(0, true), (1, true), (2, true), (3, true), (4, true), (5, true), (6, true), (7, true), (8, true), (9, true), (10, true), (11, true), (12, true)] [(0, false), (0, false), (0, false), (0, false), (0, false), (0, false), (0, false), (0, false), (0, false), (0, false), (0, false), (0, false), (0, false)] mixed (by kernel_rfl) (by kernel_rfl) ?_
        simp (maxSteps := 400000) (dsimp := false) only [h1, h2, h4, hH, I3_len, axs, axw, aresL, afill, Value.oneCell', Nat.reduceLT, Nat.reduceLeDiff, Nat.reduceEqDiff, Nat.reduceAdd, Nat.reduceMul, Nat.reduceSub, Nat.reduceBEq, Int.reduceLE, Int.reduceLT, Int.reduceToNat, Int.reduceNeg, Int.reduceEq, axt, ftK, ft3, AAll, ftQ, T3, tys]
        refine ACallP.pure rfl (ct) ?_; simp (maxSteps := 400000) (dsimp := false) only [h1, h2, h4, hH, I3_len, q1, eq_true q4, axs, axw, aresL, afill, Value.oneCell', Nat.reduceLT, Nat.reduceLeDiff, Nat.reduceEqDiff, Nat.reduceAdd, Nat.reduceMul, Nat.reduceSub, Nat.reduceBEq, Int.reduceLE, Int.reduceLT, Int.reduceToNat, Int.reduceNeg, Int.reduceEq, axt, ftK, ft3, AAll, ftQ, T3, tys]
        refine ACallK.strict rfl (hcall) (by simp only [SeesL, h1, h2, h4, hH, hH1, hne, hne3, e1, e2, hn4, b1, b2, U_len, axs, axt, AS.ev, AS.put, upd, inHeap, Nat.reduceLT, Nat.reduceEqDiff, Nat.reduceAdd, Nat.reduceBEq, T3]; exact see9e1a0) ?_; simp (maxSteps := 400000) (dsimp := false) only [h1, h2, h4, hH, hH1, hne, hne3, e1, e2, hn4, b1, b2, U_len, axs, axw, aresL, afill, Value.oneCell', Nat.reduceLT, Nat.reduceLeDiff, Nat.reduceEqDiff, Nat.reduceAdd, Nat.reduceMul, Nat.reduceSub, Nat.reduceBEq, Int.reduceLE, Int.reduceLT, Int.reduceToNat, Int.reduceNeg, Int.reduceEq, axt, ftK, ft3, AAll, ftQ, T3, tys]
        refine ⟨(y, out ++ [k]), by show y.S.length + y.M.length < _; omega, by omega, rfl, hx2, wB, by show (out ++ [k]).length + (y.S.length + y.M.length) ≤ 1000; rw [List.length_append, List.length_singleton]; omega, ?_, fun id z o m e => by cases e; omega⟩
        rw [hsn]; exact Live.mk (upd_same _ _ _) (by simp [U_len])
      · have hcall := hcM q2 q3
        have q4 := hm1 q2
        unfold T3 at hcall
        simp (maxSteps := 400000) (dsimp := false) only [h1, h2, h4, hH, I3_len, w1, hc, axs, axw, aresL, afill, Value.oneCell', Nat.reduceLT, Nat.reduceLeDiff, Nat.reduceEqDiff, Nat.reduceAdd, Nat.reduceMul, Nat.reduceSub, Nat.reduceBEq, Int.reduceLE, Int.reduceLT, Int.reduceToNat, Int.reduceNeg, Int.reduceEq, axt, ftK, ft3, AAll, ftQ, T3, tys]
        refine ADraw.planR [] [(0, true), (1, true), (2, true), (3, true), (4, true), (5, true), (6, true), (7, true), (8, true), (9, true), (10, true), (11, true), (12, true)] [(0, false), (0, false), (0, false), (0, false), (0, false), (0, false), (0, false), (0, false), (0, false), (0, false), (0, false), (0, false), (0, false)] mixed (by kernel_rfl) (by kernel_rfl) ?_
        simp (maxSteps := 400000) (dsimp := false) only [h1, h2, h4, hH, I3_len, axs, axw, aresL, afill, Value.oneCell', Nat.reduceLT, Nat.reduceLeDiff, Nat.reduceEqDiff, Nat.reduceAdd, Nat.reduceMul, Nat.reduceSub, Nat.reduceBEq, Int.reduceLE, Int.reduceLT, Int.reduceToNat, Int.reduceNeg, Int.reduceEq, axt, ftK, ft3, AAll, ftQ, T3, tys]
        refine ACallP.pure rfl (ct) ?_; simp (maxSteps := 400000) (dsimp := false) only [h1, h2, h4, hH, I3_len, q1, eq_false q4, axs, axw, aresL, afill, Value.oneCell', Nat.reduceLT, Nat.reduceLeDiff, Nat.reduceEqDiff, Nat.reduceAdd, Nat.reduceMul, Nat.reduceSub, Nat.reduceBEq, Int.reduceLE, Int.reduceLT, Int.reduceToNat, Int.reduceNeg, Int.reduceEq, axt, ftK, ft3, AAll, ftQ, T3, tys]
        refine ACallK.strict rfl (hcall) (by simp only [SeesL, h1, h2, h4, hH, hH1, hne, hne3, e1, e2, hn4, b1, b2, U_len, axs, axt, AS.ev, AS.put, upd, inHeap, Nat.reduceLT, Nat.reduceEqDiff, Nat.reduceAdd, Nat.reduceBEq, T3]; exact see9e1a0) ?_; simp (maxSteps := 400000) (dsimp := false) only [h1, h2, h4, hH, hH1, hne, hne3, e1, e2, hn4, b1, b2, U_len, axs, axw, aresL, afill, Value.oneCell', Nat.reduceLT, Nat.reduceLeDiff, Nat.reduceEqDiff, Nat.reduceAdd, Nat.reduceMul, Nat.reduceSub, Nat.reduceBEq, Int.reduceLE, Int.reduceLT, Int.reduceToNat, Int.reduceNeg, Int.reduceEq, axt, ftK, ft3, AAll, ftQ, T3, tys]
        refine ⟨(y, out ++ [k]), by show y.S.length + y.M.length < _; omega, by omega, rfl, hx2, wB, by show (out ++ [k]).length + (y.S.length + y.M.length) ≤ 1000; rw [List.length_append, List.length_singleton]; omega, ?_, fun id z o m e => by cases e; omega⟩
        rw [hsn]; exact Live.mk (upd_same _ _ _) (by simp [U_len])
  · rw [s3shr_stop _ hc] at hx
    subst hx
    simp (maxSteps := 400000) (dsimp := false) only [h1, h2, h4, hH, I3_len, w1, hc, hH1, hne, axs, axw, aresL, afill, Value.oneCell', Nat.reduceLT, Nat.reduceLeDiff, Nat.reduceEqDiff, Nat.reduceAdd, Nat.reduceMul, Nat.reduceSub, Nat.reduceBEq, Int.reduceLE, Int.reduceLT, Int.reduceToNat, Int.reduceNeg, Int.reduceEq, axt, ftK, ft3, AAll, ftQ, T3, tys]
    refine ⟨_, rfl, Sees.tup ?_⟩
    simp only [SeesL]
    refine ⟨Sees.same (by simp [T3, noIds, noIdsL, noIdsE_I3, noIdsE_U]), Live.sees (te := 54) ?_ (noIdsE_U _), trivial⟩
    rcases hv with ⟨e1, e2⟩ | ⟨id, e1, e2⟩
    · exact .inl ⟨e1, e2⟩
    · exact .inr ⟨id, e1, (upd_ne _ _ (by have := hid _ _ _ _ e1; omega)).trans e2⟩
end Go.Al
