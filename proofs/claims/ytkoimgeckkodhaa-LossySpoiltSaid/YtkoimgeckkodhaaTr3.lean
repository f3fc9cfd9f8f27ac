/- A small queue, a main one and ghosts: ghosts fall; which key the reference evicts. Conditions: the rows are short. -/
import Derived.Test.YtkoimgeckkodhaaTr2
set_option linter.unusedVariables false
set_option linter.unusedSimpArgs false
set_option maxRecDepth 20000
set_option maxHeartbeats 3200000
-- axs, axw, aresL, afill, Value.oneCell', Nat.reduceLT, Nat.reduceLeDiff, Nat.reduceEqDiff, Nat.reduceAdd, Nat.reduceMul, Nat.reduceSub, Nat.reduceBEq, Int.reduceLE, Int.reduceLT, Int.reduceToNat, Int.reduceNeg, Int.reduceEq, axt, ftK, ft3, AAll, ftQ, T3, tys: T3
-- NOIDS: noIdsE_I3
-- LENS: I3_len
namespace Go.Al
open Go.Proofs
theorem see6e600 {p : Prop} (h : p := by repeat' (first | exact True.intro | exact Sees.sc | exact Sees.none | ((with_reducible refine Sees.same ?_) <;> simp [noIds, noIdsL, noIdsE, noIdsE_U, noIdsE_UU, noIdsE_I3] <;> fail) | (refine Live.sees ?_ ?_ <;> first | assumption | (simp [noIdsE_U, noIdsE_UU, noIdsE_I3] <;> fail)) | (refine Sees.obj ?_ ?_ ?_ <;> first | exact ⟨_, _, by assumption, rfl⟩ | (simp [U_len, UU_len, I3_len] <;> fail) | (simp [noIdsE_U, noIdsE_UU, noIdsE_I3] <;> fail) | (simp [U, UU, upd, neS] <;> fail) | (simp [U, UU, upd, neS, *] <;> fail)) | refine Sees.agg ?_ | refine Sees.tup ?_ | refine And.intro ?_ ?_ | simp only [SeesL])) : p := h
theorem see6e601 {p : Prop} (h : p := by repeat' (first | exact True.intro | exact Sees.sc | exact Sees.none | ((with_reducible refine Sees.same ?_) <;> simp [noIds, noIdsL, noIdsE, noIdsE_U, noIdsE_UU, noIdsE_I3] <;> fail) | (refine Live.sees ?_ ?_ <;> first | assumption | (simp [noIdsE_U, noIdsE_UU, noIdsE_I3] <;> fail)) | (refine Sees.obj ?_ ?_ ?_ <;> first | exact ⟨_, _, by assumption, rfl⟩ | (simp [U_len, UU_len, I3_len] <;> fail) | (simp [noIdsE_U, noIdsE_UU, noIdsE_I3] <;> fail) | (simp [U, UU, upd] <;> fail) | (simp [U, UU, upd, neS, *] <;> fail)) | (refine Sees.of_seen 3 ?_ <;> simp [seen, upd, noIdsE, noIdsL, noIds, U, UU, Nat.add_assoc] <;> fail) | refine Sees.agg ?_ | refine And.intro ?_ ?_ | simp only [SeesL])) : p := h
theorem r3fall (s : S3) (c0 : 1 ≤ s.C) (c1 : s.C ≤ 1048576) (hl : s.G.length ≤ 100000) : PCalls Try.prog 93 [T3 s] (T3 (s3fall s)) := by
  obtain ⟨C, S, M, G⟩ := s
  simp only at c0 c1 hl
  have ht := tgt_le c0
  have ct := r3Target C c0 c1
  have w0 : IntKind.i64.wrap (C - tgt C) = C - tgt C := wrap_in (by omega) (by omega)
  show PCalls _ _ _ (T3 ⟨C, S, M, cutTo G (C - tgt C)⟩)
  generalize hz : C - tgt C = z at *
  have z0 : 0 ≤ z := by omega
  refine PCalls.intro2 Try.func93 rfl rfl Try.ntmps93 Try.results93 (by simp) fun n => ?_; simp (maxSteps := 400000) (dsimp := false) only [axs, axw, aresL, afill, Value.oneCell', Nat.reduceLT, Nat.reduceLeDiff, Nat.reduceEqDiff, Nat.reduceAdd, Nat.reduceMul, Nat.reduceSub, Nat.reduceBEq, Int.reduceLE, Int.reduceLT, Int.reduceToNat, Int.reduceNeg, Int.reduceEq, axt, ftK, ft3, AAll, ftQ, T3, tys]
  refine ALoop.falls (fun k : Nat => k) (fun k t => k ≤ G.length ∧ t.t 1 = .ptr n 4 0 0 ∧ t.t 2 = .ptr (n + 1) 4 0 0 ∧ t.H n = some (.obj 41 4 [[.sc (.int .i64 C), .lst 2 (I3 S), .lst 2 (I3 M), .lst 1 (U (G.take k))]] false) ∧ t.H (n + 1) = some (.obj 41 4 [[.sc (.int .i64 0), .sc (.slice none 0 0), .sc (.slice none 0 0), .sc (.slice none 0 0)]] false) ∧ (k < G.length → z ≤ k)) G.length ⟨Nat.le_refl _, rfl, rfl, by rw [List.take_length]; simp [upd, neS], by simp [upd, neS], fun h => absurd h (Nat.lt_irrefl _)⟩ ?_
  rintro k t hb ⟨hk, h1, h2, hH, hH1, hkz⟩
  have hne : ¬ n = n + 1 ∧ ¬ n + 1 = n := by omega
  have hlen : (G.take k).length = k := by rw [List.length_take]; omega
  simp (maxSteps := 400000) (dsimp := false) only [h1, h2, axs, axw, aresL, afill, Value.oneCell', Nat.reduceLT, Nat.reduceLeDiff, Nat.reduceEqDiff, Nat.reduceAdd, Nat.reduceMul, Nat.reduceSub, Nat.reduceBEq, Int.reduceLE, Int.reduceLT, Int.reduceToNat, Int.reduceNeg, Int.reduceEq, axt, ftK, ft3, AAll, ftQ, T3, tys]
  refine ADraw.planR [] [(0, true), (1, true), (2, true), (3, true), (4, true), (5, true), (6, true), (7, true), (8, true), (9, true)] [(0, false), (0, false), (0, false), (0, false), (0, false), (0, false), (0, false), (0, false), (0, false), (0, false)] mixed (by kernel_rfl) (by kernel_rfl) ?_
  simp (maxSteps := 400000) (dsimp := false) only [h1, h2, hH, U_len, hlen, axs, axw, aresL, afill, Value.oneCell', Nat.reduceLT, Nat.reduceLeDiff, Nat.reduceEqDiff, Nat.reduceAdd, Nat.reduceMul, Nat.reduceSub, Nat.reduceBEq, Int.reduceLE, Int.reduceLT, Int.reduceToNat, Int.reduceNeg, Int.reduceEq, axt, ftK, ft3, AAll, ftQ, T3, tys]
  by_cases hc : (k : Int) > z
  · have k1 : 0 < k := by omega
    have w1 : IntKind.i64.wrap ((k : Int) - 1) = ((k - 1 : Nat) : Int) := by rw [IntWalk.i64_in _ ⟨by omega, by omega⟩]; omega
    have g1 : (0 : Int) ≤ ((k - 1 : Nat) : Int) := by omega
    have g2 : ((k - 1 : Nat) : Int) ≤ (k : Int) := by omega
    have hT : List.take (k - 1) (U (G.take k)) = U (G.take (k - 1)) := by rw [U_take, List.take_take, Nat.min_eq_left (by omega)]
    refine ACallP.pure rfl (ct) ?_; simp (maxSteps := 400000) (dsimp := false) only [h1, h2, hH, U_len, hlen, hz, w0, hc, w1, g1, g2, hT, hne, hH1, axs, axw, aresL, afill, Value.oneCell', Nat.reduceLT, Nat.reduceLeDiff, Nat.reduceEqDiff, Nat.reduceAdd, Nat.reduceMul, Nat.reduceSub, Nat.reduceBEq, Int.reduceLE, Int.reduceLT, Int.reduceToNat, Int.reduceNeg, Int.reduceEq, axt, ftK, ft3, AAll, ftQ, T3, tys]
    exact ⟨k - 1, by omega, by omega, rfl, by omega⟩
  · have hcut : cutTo G z = G.take k := by
      unfold cutTo
      rcases Nat.lt_or_ge k G.length with h | h
      · have := hkz h
        congr 1; omega
      · have : k = G.length := by omega
        rw [this, List.take_length, List.take_of_length_le (by omega)]
    rw [hcut]
    refine ACallP.pure rfl (ct) ?_; simp (maxSteps := 400000) (dsimp := false) only [h1, h2, hH, U_len, hlen, hz, w0, hc, hne, hH1, axs, axw, aresL, afill, Value.oneCell', Nat.reduceLT, Nat.reduceLeDiff, Nat.reduceEqDiff, Nat.reduceAdd, Nat.reduceMul, Nat.reduceSub, Nat.reduceBEq, Int.reduceLE, Int.reduceLT, Int.reduceToNat, Int.reduceNeg, Int.reduceEq, axt, ftK, ft3, AAll, ftQ, T3, tys]
    refine ⟨_, rfl, ?_⟩; simp (maxSteps := 400000) (dsimp := false) only [SeesL, axs, axw, aresL, afill, Value.oneCell', Nat.reduceLT, Nat.reduceLeDiff, Nat.reduceEqDiff, Nat.reduceAdd, Nat.reduceMul, Nat.reduceSub, Nat.reduceBEq, Int.reduceLE, Int.reduceLT, Int.reduceToNat, Int.reduceNeg, Int.reduceEq, axt, ftK, ft3, AAll, ftQ, T3, tys] <;> exact see6e600
theorem r3fromSmall : ∀ (f : Nat) (s : S3), s.S.length ≤ f → S3B s → s.S ≠ [] ∨ s.M ≠ [] → PCalls Try.prog 106 [T3 s] (.tup [T3 (fromS f s).1, .sc (.int .u64 (fromS f s).2)]) := by
  have nil : ∀ (s : S3), s.S = [] → S3B s → s.M ≠ [] → PCalls Try.prog 106 [T3 s] (.tup [T3 (outM s).1, .sc (.int .u64 (outM s).2)]) := by
    intro s e h hm
    obtain ⟨C, S, M, G⟩ := s
    obtain rfl : S = [] := e
    have hle := h.le
    have hfm := h.fm
    simp only at hm hle hfm
    have hc := r3fromMain (sumF M) C [] M G (Nat.le_refl _) hm (by omega) (fun x hx => (hfm x hx).2)
    show PCalls _ _ _ (.tup [T3 ⟨C, [], (fromM (sumF M) M).1, G⟩, .sc (.int .u64 (fromM (sumF M) M).2)])
    generalize fromM (sumF M) M = R at *
    have hn : I3 [] = [] := rfl
    unfold T3 at hc
    simp only [hn] at hc
    have w1 : IntKind.i64.wrap ((0 : Int) - 1) = -1 := by decide
    have w2 : (-1 : Int) < 0 := by omega
    have w3 : (((0 : Nat) : Int)) = 0 := rfl
    refine PCalls.intro2 Try.func106 rfl rfl Try.ntmps106 Try.results106 (by simp) fun n => ?_; simp (maxSteps := 400000) (dsimp := false) only [hn, List.length_nil, w3, w1, w2, axs, axw, aresL, afill, Value.oneCell', Nat.reduceLT, Nat.reduceLeDiff, Nat.reduceEqDiff, Nat.reduceAdd, Nat.reduceMul, Nat.reduceSub, Nat.reduceBEq, Int.reduceLE, Int.reduceLT, Int.reduceToNat, Int.reduceNeg, Int.reduceEq, axt, ftK, ft3, AAll, ftQ, T3, tys]
    refine ACallK.strict rfl (hc) (by simp only [SeesL, axs, axt, AS.ev, AS.put, upd, inHeap, Nat.reduceLT, Nat.reduceEqDiff, Nat.reduceAdd, Nat.reduceBEq, T3]; exact see6e601) ?_; simp (maxSteps := 400000) (dsimp := false) only [axs, axw, aresL, afill, Value.oneCell', Nat.reduceLT, Nat.reduceLeDiff, Nat.reduceEqDiff, Nat.reduceAdd, Nat.reduceMul, Nat.reduceSub, Nat.reduceBEq, Int.reduceLE, Int.reduceLT, Int.reduceToNat, Int.reduceNeg, Int.reduceEq, axt, ftK, ft3, AAll, ftQ, T3, tys]
    refine ⟨_, rfl, ?_⟩; simp (maxSteps := 400000) (dsimp := false) only [SeesL, hn, axs, axw, aresL, afill, Value.oneCell', Nat.reduceLT, Nat.reduceLeDiff, Nat.reduceEqDiff, Nat.reduceAdd, Nat.reduceMul, Nat.reduceSub, Nat.reduceBEq, Int.reduceLE, Int.reduceLT, Int.reduceToNat, Int.reduceNeg, Int.reduceEq, axt, ftK, ft3, AAll, ftQ, T3, tys] <;> exact see6e600
  intro f
  induction f with
  | zero =>
    intro s hf h hn
    have e : s.S = [] := List.length_eq_zero_iff.1 (by omega)
    exact nil s e h (hn.resolve_left fun h => h e)
  | succ f ih =>
    intro s hf h hn
    by_cases e : s.S = []
    · rw [show fromS (f + 1) s = outM s from by rw [fromS, if_pos e]]
      exact nil s e h (hn.resolve_left fun h => h e)
    · have es := snocP e
      have hgo : fromS (f + 1) s = if (lastP s.S).2 > 1 then fromS f ⟨s.C, initP s.S, ((lastP s.S).1, 0) :: s.M, s.G⟩ else (⟨s.C, initP s.S, s.M, cutTo ((lastP s.S).1 :: without s.G (lastP s.S).1) (s.C - tgt s.C)⟩, (lastP s.S).1) := by rw [fromS, if_neg e]
      rw [hgo]
      clear hgo e hn
      obtain ⟨C, S, M, G⟩ := s
      simp only at es hf ⊢
      generalize initP S = A at *
      generalize lastP S = x at *
      subst es
      have hB : S3B ⟨C, A, (x.1, 0) :: M, G⟩ := by
        have hk : ks3 ⟨C, A, (x.1, 0) :: M, G⟩ = ks3 ⟨C, A ++ [x], M, G⟩ := by
          unfold ks3
          simp [keyP]
        have hl := h.le
        simp only [List.length_append, List.length_singleton] at hl
        exact ⟨h.c0, h.c1, by rw [hk]; exact h.nd, fun y hy => h.fs y (List.mem_append_left _ hy), fun y hy => by
            rcases List.mem_cons.1 hy with rfl | hy
            · exact ⟨by show (0 : Int) ≤ 0; omega, by show (0 : Int) ≤ 3; omega⟩
            · exact h.fm y hy, h.g, by show A.length + (M.length + 1) ≤ 14; omega⟩
      have hle := h.le
      have c0 := h.c0
      have c1 := h.c1
      have hgl := h.g
      clear h
      simp only [List.length_append, List.length_singleton] at hle hf c0 c1 hgl
      have hL : (I3 (A ++ [x])).length = A.length + 1 := by rw [I3_len]; simp
      have w1 : IntKind.i64.wrap (((A.length + 1 : Nat) : Int) - 1) = (A.length : Int) := by rw [IntWalk.i64_in _ ⟨by omega, by omega⟩]; omega
      have g0 : ¬ (A.length : Int) < 0 := by omega
      have g1 : (0 : Int) ≤ (A.length : Int) := by omega
      have g2 : (A.length : Int) < ((A.length + 1 : Nat) : Int) := by omega
      have g3 : (A.length : Int) ≤ ((A.length + 1 : Nat) : Int) := by omega
      have hg : (I3 (A ++ [x]))[A.length]? = some [.sc (.int .u64 x.1), .sc (.int .i64 x.2)] := I3_get (by simp)
      have hT : List.take A.length (I3 (A ++ [x])) = I3 A := by rw [I3_take, List.take_left]
      have b1 : A.length * 16 ≤ 140737488355328 := by omega
      have b2 : A.length ≤ 1099511627776 := by omega
      by_cases hx : x.2 > 1
      · rw [if_pos hx]
        have hc := ih ⟨C, A, (x.1, 0) :: M, G⟩ (by show A.length ≤ f; omega) hB (.inr (by simp))
        generalize fromS f ⟨C, A, (x.1, 0) :: M, G⟩ = R at *
        have hcm : 1 + M.length = M.length + 1 := Nat.add_comm _ _
        have b3 : (M.length + 1) * 16 ≤ 140737488355328 := by omega
        have b4 : M.length + 1 ≤ 1099511627776 := by omega
        have hcons : I3 ((x.1, 0) :: M) = [.sc (.int .u64 x.1), .sc (.int .i64 0)] :: I3 M := rfl
        unfold T3 at hc
        simp only at hc
        unfold T3
        simp only
        generalize hI : I3 (A ++ [x]) = I at *
        refine PCalls.intro2 Try.func106 rfl rfl Try.ntmps106 Try.results106 (by simp) fun n => ?_; simp (maxSteps := 400000) (dsimp := false) only [hL, w1, g0, g1, g2, g3, hg, hT, hx, I3_len, b1, b2, b3, b4, hcm, axs, axw, aresL, afill, Value.oneCell', Nat.reduceLT, Nat.reduceLeDiff, Nat.reduceEqDiff, Nat.reduceAdd, Nat.reduceMul, Nat.reduceSub, Nat.reduceBEq, Int.reduceLE, Int.reduceLT, Int.reduceToNat, Int.reduceNeg, Int.reduceEq, axt, ftK, ft3, AAll, ftQ, T3, tys]
        refine ACallK.shutO (id := n + 1 + 1 + 1 + 1) (t := 135) (z := 2) (es := I3 A) (by simp [upd, neS]) ?_
        refine ACallK.shutO (id := n + 1 + 1 + 1 + 1 + 1 + 1) (t := 135) (z := 2) (es := I3 ((x.1, 0) :: M)) (by rw [hcons]; simp [upd, neS]) ?_
        refine ACallK.strict rfl (hc) (by simp only [SeesL, axs, axt, AS.ev, AS.put, upd, inHeap, Nat.reduceLT, Nat.reduceEqDiff, Nat.reduceAdd, Nat.reduceBEq, T3]; exact see6e601) ?_; simp (maxSteps := 400000) (dsimp := false) only [axs, axw, aresL, afill, Value.oneCell', Nat.reduceLT, Nat.reduceLeDiff, Nat.reduceEqDiff, Nat.reduceAdd, Nat.reduceMul, Nat.reduceSub, Nat.reduceBEq, Int.reduceLE, Int.reduceLT, Int.reduceToNat, Int.reduceNeg, Int.reduceEq, axt, ftK, ft3, AAll, ftQ, T3, tys]
        refine ⟨_, rfl, ?_⟩; simp (maxSteps := 400000) (dsimp := false) only [SeesL, axs, axw, aresL, afill, Value.oneCell', Nat.reduceLT, Nat.reduceLeDiff, Nat.reduceEqDiff, Nat.reduceAdd, Nat.reduceMul, Nat.reduceSub, Nat.reduceBEq, Int.reduceLE, Int.reduceLT, Int.reduceToNat, Int.reduceNeg, Int.reduceEq, axt, ftK, ft3, AAll, ftQ, T3, tys] <;> exact see6e600
      · rw [if_neg hx]
        have cf := rFront G x.1 (by omega)
        have wl := without_len G x.1
        have cl := r3fall ⟨C, A, M, x.1 :: without G x.1⟩ c0 (by show C ≤ _; omega) (by show (_ :: without G x.1).length ≤ _; rw [List.length_cons]; omega)
        unfold T3 s3fall at cl
        simp only at cl
        unfold T3
        simp only
        generalize hI : I3 (A ++ [x]) = I at *
        refine PCalls.intro2 Try.func106 rfl rfl Try.ntmps106 Try.results106 (by simp) fun n => ?_; simp (maxSteps := 400000) (dsimp := false) only [hL, w1, g0, g1, g2, g3, hg, hT, hx, I3_len, b1, b2, axs, axw, aresL, afill, Value.oneCell', Nat.reduceLT, Nat.reduceLeDiff, Nat.reduceEqDiff, Nat.reduceAdd, Nat.reduceMul, Nat.reduceSub, Nat.reduceBEq, Int.reduceLE, Int.reduceLT, Int.reduceToNat, Int.reduceNeg, Int.reduceEq, axt, ftK, ft3, AAll, ftQ, T3, tys]
        refine ACallK.shutO (id := n + 1 + 1 + 1 + 1) (t := 135) (z := 2) (es := I3 A) (by simp [upd, neS]) ?_
        refine ACallK.strict rfl (cf) (by simp only [SeesL, axs, axt, AS.ev, AS.put, upd, inHeap, Nat.reduceLT, Nat.reduceEqDiff, Nat.reduceAdd, Nat.reduceBEq, T3]; exact see6e601) ?_; simp (maxSteps := 400000) (dsimp := false) only [axs, axw, aresL, afill, Value.oneCell', Nat.reduceLT, Nat.reduceLeDiff, Nat.reduceEqDiff, Nat.reduceAdd, Nat.reduceMul, Nat.reduceSub, Nat.reduceBEq, Int.reduceLE, Int.reduceLT, Int.reduceToNat, Int.reduceNeg, Int.reduceEq, axt, ftK, ft3, AAll, ftQ, T3, tys]
        refine ADraw.tree [1] [(0, true)] 4 (.fork [(1, true), (2, true)] (.leaf [(3, true), (4, true), (5, true)]) (.leaf [(4, true), (3, true), (5, true)])) (.fork [(2, true)] (.fork [(1, true)] (.leaf [(3, true), (4, true), (5, true)]) (.leaf [(4, true), (3, true), (5, true)])) (.leaf [(3, true), (1, true), (4, true), (5, true)])) mixed (by kernel_rfl) ?_
        simp (maxSteps := 400000) (dsimp := false) only [axs, axw, aresL, afill, Value.oneCell', Nat.reduceLT, Nat.reduceLeDiff, Nat.reduceEqDiff, Nat.reduceAdd, Nat.reduceMul, Nat.reduceSub, Nat.reduceBEq, Int.reduceLE, Int.reduceLT, Int.reduceToNat, Int.reduceNeg, Int.reduceEq, axt, ftK, ft3, AAll, ftQ, T3, tys]
        repeat' with_reducible refine And.intro ?_ ?_
        all_goals refine ASoloK.strict rfl rfl (cl) (by simp only [SeesL, axs, axt, AS.ev, AS.put, upd, inHeap, Nat.reduceLT, Nat.reduceEqDiff, Nat.reduceAdd, Nat.reduceBEq, T3]; exact see6e601) ?_; simp (maxSteps := 400000) (dsimp := false) only [axs, axw, aresL, afill, Value.oneCell', Nat.reduceLT, Nat.reduceLeDiff, Nat.reduceEqDiff, Nat.reduceAdd, Nat.reduceMul, Nat.reduceSub, Nat.reduceBEq, Int.reduceLE, Int.reduceLT, Int.reduceToNat, Int.reduceNeg, Int.reduceEq, axt, ftK, ft3, AAll, ftQ, T3, tys]
        repeat' with_reducible refine And.intro ?_ ?_
        all_goals refine ⟨_, rfl, ?_⟩; simp (maxSteps := 400000) (dsimp := false) only [SeesL, axs, axw, aresL, afill, Value.oneCell', Nat.reduceLT, Nat.reduceLeDiff, Nat.reduceEqDiff, Nat.reduceAdd, Nat.reduceMul, Nat.reduceSub, Nat.reduceBEq, Int.reduceLE, Int.reduceLT, Int.reduceToNat, Int.reduceNeg, Int.reduceEq, axt, ftK, ft3, AAll, ftQ, T3, tys] <;> exact see6e600
end Go.Al
