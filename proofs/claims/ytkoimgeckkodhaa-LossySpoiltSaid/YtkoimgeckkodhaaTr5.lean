/- A small queue, a main one and ghosts: the reference's acts. Conditions: the state is one that comes up. -/
import Derived.Test.YtkoimgeckkodhaaTr4
set_option linter.unusedVariables false
set_option linter.unusedSimpArgs false
set_option maxRecDepth 20000
set_option maxHeartbeats 3200000
-- axs, axw, aresL, afill, Value.oneCell', Nat.reduceLT, Nat.reduceLeDiff, Nat.reduceEqDiff, Nat.reduceAdd, Nat.reduceMul, Nat.reduceSub, Nat.reduceBEq, Int.reduceLE, Int.reduceLT, Int.reduceToNat, Int.reduceNeg, Int.reduceEq, axt, ftK, ft3, AAll, ftQ, T3, tys: T3
-- NOIDS: noIdsE_I3
-- LENS: I3_len
namespace Go.Al
open Go.Proofs
theorem r3used (l : List (Int × Int)) (k : Int) (hl : l.length ≤ 100000) (hf : freqs l) : PCalls Try.prog 75 [.lst 2 (I3 l), .sc (.int .u64 k)] (.lst 2 (I3 (used3 l k))) := by
  refine PCalls.intro2 Try.func75 rfl rfl Try.ntmps75 Try.results75 (by simp) fun n => ?_; simp (maxSteps := 400000) (dsimp := false) only [axs, axw, aresL, afill, Value.oneCell', Nat.reduceLT, Nat.reduceLeDiff, Nat.reduceEqDiff, Nat.reduceAdd, Nat.reduceMul, Nat.reduceSub, Nat.reduceBEq, Int.reduceLE, Int.reduceLT, Int.reduceToNat, Int.reduceNeg, Int.reduceEq, axt, ftK, ft3, AAll, ftQ, T3, tys]
  refine ALoop.upto l.length (fun p s => s.t 0 = .lst 2 (I3 l) ∧ s.t 1 = .sc (.int .u64 k) ∧ s.t 6 = .sc (.int .i64 p) ∧ Live 135 2 s.H (I3 (used3 (l.take p) k)) (s.t 5)) ⟨rfl, rfl, rfl, Live.nil⟩ ?_
  rintro p s hp hb ⟨h0, h1, h6, hv⟩
  have hwl : (used3 (l.take p) k).length ≤ 100000 := by rw [used3_len, List.length_take]; omega
  rcases Nat.lt_or_ge p l.length with hlt | hge
  · obtain ⟨x, hx, hp0, hpl, hw, hT, hD⟩ := idx hlt (by omega)
    have hg := I3_get hx
    have hs : used3 (l.take (p + 1)) k = used3 (l.take p) k ++ [if x.1 = k ∧ x.2 < 3 then (x.1, x.2 + 1) else x] := by rw [hT]; simp [used3]
    rw [hs, I3_snoc]
    generalize used3 (l.take p) k = q at *
    have b1 : (q.length + 1) * 16 ≤ 140737488355328 := by omega
    have b2 : q.length + 1 ≤ 1099511627776 := by omega
    have hfx := hf x (List.mem_of_getElem? hx)
    have w2 : IntKind.i64.wrap (x.2 + 1) = x.2 + 1 := wrap_in (by omega) (by omega)
    rcases hv.cases hb with ⟨h7, h8⟩ | ⟨id, hlt2, hne, h7, h8⟩
    · obtain rfl := I3_nil h7
      by_cases e : x.1 = k
      · by_cases e2 : x.2 < 3
        · rw [if_pos ⟨e, e2⟩]
          simp (maxSteps := 400000) (dsimp := false) only [h0, h1, h6, hg, hp0, hpl, hw, I3_len, e, e2, h8, w2, axs, axw, aresL, afill, Value.oneCell', Nat.reduceLT, Nat.reduceLeDiff, Nat.reduceEqDiff, Nat.reduceAdd, Nat.reduceMul, Nat.reduceSub, Nat.reduceBEq, Int.reduceLE, Int.reduceLT, Int.reduceToNat, Int.reduceNeg, Int.reduceEq, axt, ftK, ft3, AAll, ftQ, T3, tys]
          exact ⟨hlt, Live.mk (upd_same _ _ _) rfl⟩
        · rw [if_neg (fun h => e2 h.2)]
          simp (maxSteps := 400000) (dsimp := false) only [h0, h1, h6, hg, hp0, hpl, hw, I3_len, e, e2, h8, axs, axw, aresL, afill, Value.oneCell', Nat.reduceLT, Nat.reduceLeDiff, Nat.reduceEqDiff, Nat.reduceAdd, Nat.reduceMul, Nat.reduceSub, Nat.reduceBEq, Int.reduceLE, Int.reduceLT, Int.reduceToNat, Int.reduceNeg, Int.reduceEq, axt, ftK, ft3, AAll, ftQ, T3, tys]
          exact ⟨hlt, Live.mk (upd_same _ _ _) rfl⟩
      · rw [if_neg (fun h => e h.1)]
        simp (maxSteps := 400000) (dsimp := false) only [h0, h1, h6, hg, hp0, hpl, hw, I3_len, e, h8, axs, axw, aresL, afill, Value.oneCell', Nat.reduceLT, Nat.reduceLeDiff, Nat.reduceEqDiff, Nat.reduceAdd, Nat.reduceMul, Nat.reduceSub, Nat.reduceBEq, Int.reduceLE, Int.reduceLT, Int.reduceToNat, Int.reduceNeg, Int.reduceEq, axt, ftK, ft3, AAll, ftQ, T3, tys]
        exact ⟨hlt, Live.mk (upd_same _ _ _) rfl⟩
    · rw [I3_len] at h7
      have hn2 : ¬ id = s.n + 1 ∧ ¬ s.n + 1 = id ∧ ¬ s.n = id := by omega
      by_cases e : x.1 = k
      · by_cases e2 : x.2 < 3
        · rw [if_pos ⟨e, e2⟩]
          simp (maxSteps := 400000) (dsimp := false) only [h0, h1, h6, hg, hp0, hpl, hw, I3_len, e, e2, h7, h8, hne, hn2, b1, b2, w2, axs, axw, aresL, afill, Value.oneCell', Nat.reduceLT, Nat.reduceLeDiff, Nat.reduceEqDiff, Nat.reduceAdd, Nat.reduceMul, Nat.reduceSub, Nat.reduceBEq, Int.reduceLE, Int.reduceLT, Int.reduceToNat, Int.reduceNeg, Int.reduceEq, axt, ftK, ft3, AAll, ftQ, T3, tys]
          exact ⟨hlt, Live.mk (upd_same _ _ _) (by simp [I3_len])⟩
        · rw [if_neg (fun h => e2 h.2)]
          simp (maxSteps := 400000) (dsimp := false) only [h0, h1, h6, hg, hp0, hpl, hw, I3_len, e, e2, h7, h8, hne, hn2, b1, b2, axs, axw, aresL, afill, Value.oneCell', Nat.reduceLT, Nat.reduceLeDiff, Nat.reduceEqDiff, Nat.reduceAdd, Nat.reduceMul, Nat.reduceSub, Nat.reduceBEq, Int.reduceLE, Int.reduceLT, Int.reduceToNat, Int.reduceNeg, Int.reduceEq, axt, ftK, ft3, AAll, ftQ, T3, tys]
          exact ⟨hlt, Live.mk (upd_same _ _ _) (by simp [I3_len])⟩
      · rw [if_neg (fun h => e h.1)]
        simp (maxSteps := 400000) (dsimp := false) only [h0, h1, h6, hg, hp0, hpl, hw, I3_len, e, h7, h8, hne, hn2, b1, b2, axs, axw, aresL, afill, Value.oneCell', Nat.reduceLT, Nat.reduceLeDiff, Nat.reduceEqDiff, Nat.reduceAdd, Nat.reduceMul, Nat.reduceSub, Nat.reduceBEq, Int.reduceLE, Int.reduceLT, Int.reduceToNat, Int.reduceNeg, Int.reduceEq, axt, ftK, ft3, AAll, ftQ, T3, tys]
        exact ⟨hlt, Live.mk (upd_same _ _ _) (by simp [I3_len])⟩
  · have hpl : ¬ (p : Int) < l.length := by omega
    rw [List.take_of_length_le hge] at hv
    simp (maxSteps := 400000) (dsimp := false) only [h0, h1, h6, hpl, I3_len, axs, axw, aresL, afill, Value.oneCell', Nat.reduceLT, Nat.reduceLeDiff, Nat.reduceEqDiff, Nat.reduceAdd, Nat.reduceMul, Nat.reduceSub, Nat.reduceBEq, Int.reduceLE, Int.reduceLT, Int.reduceToNat, Int.reduceNeg, Int.reduceEq, axt, ftK, ft3, AAll, ftQ, T3, tys]
    exact ⟨_, rfl, hv.sees (noIdsE_I3 _)⟩
theorem r3without (l : List (Int × Int)) (k : Int) (hl : l.length ≤ 100000) : PCalls Try.prog 87 [.lst 2 (I3 l), .sc (.int .u64 k)] (.lst 2 (I3 (without3 l k))) := by
  refine PCalls.intro2 Try.func87 rfl rfl Try.ntmps87 Try.results87 (by simp) fun n => ?_; simp (maxSteps := 400000) (dsimp := false) only [axs, axw, aresL, afill, Value.oneCell', Nat.reduceLT, Nat.reduceLeDiff, Nat.reduceEqDiff, Nat.reduceAdd, Nat.reduceMul, Nat.reduceSub, Nat.reduceBEq, Int.reduceLE, Int.reduceLT, Int.reduceToNat, Int.reduceNeg, Int.reduceEq, axt, ftK, ft3, AAll, ftQ, T3, tys]
  refine ALoop.upto l.length (fun p s => s.t 0 = .lst 2 (I3 l) ∧ s.t 1 = .sc (.int .u64 k) ∧ s.t 6 = .sc (.int .i64 p) ∧ Live 135 2 s.H (I3 (without3 (l.take p) k)) (s.t 5)) ⟨rfl, rfl, rfl, Live.nil⟩ ?_
  rintro p s hp hb ⟨h0, h1, h6, hv⟩
  have hwl : (without3 (l.take p) k).length ≤ 100000 := Nat.le_trans (without3_len _ _) (by rw [List.length_take]; omega)
  rcases Nat.lt_or_ge p l.length with hlt | hge
  · obtain ⟨x, hx, hp0, hpl, hw, hT, hD⟩ := idx hlt (by omega)
    have hg := I3_get hx
    by_cases e : x.1 = k
    · simp (maxSteps := 400000) (dsimp := false) only [h0, h1, h6, hg, hp0, hpl, hw, I3_len, e, bne_self_eq_false, axs, axw, aresL, afill, Value.oneCell', Nat.reduceLT, Nat.reduceLeDiff, Nat.reduceEqDiff, Nat.reduceAdd, Nat.reduceMul, Nat.reduceSub, Nat.reduceBEq, Int.reduceLE, Int.reduceLT, Int.reduceToNat, Int.reduceNeg, Int.reduceEq, axt, ftK, ft3, AAll, ftQ, T3, tys]
      exact ⟨hlt, by rw [hT]; simpa [without3, e] using hv⟩
    · have hs : without3 (l.take (p + 1)) k = without3 (l.take p) k ++ [x] := by rw [hT]; simp [without3, e]
      rw [hs, I3_snoc]
      generalize without3 (l.take p) k = q at *
      have b1 : (q.length + 1) * 16 ≤ 140737488355328 := by omega
      have b2 : q.length + 1 ≤ 1099511627776 := by omega
      rcases hv.cases hb with ⟨h7, h8⟩ | ⟨id, hlt2, hne, h7, h8⟩
      · obtain rfl := I3_nil h7
        simp (maxSteps := 400000) (dsimp := false) only [h0, h1, h6, hg, hp0, hpl, hw, I3_len, e, h8, axs, axw, aresL, afill, Value.oneCell', Nat.reduceLT, Nat.reduceLeDiff, Nat.reduceEqDiff, Nat.reduceAdd, Nat.reduceMul, Nat.reduceSub, Nat.reduceBEq, Int.reduceLE, Int.reduceLT, Int.reduceToNat, Int.reduceNeg, Int.reduceEq, axt, ftK, ft3, AAll, ftQ, T3, tys]
        exact ⟨hlt, Live.mk (upd_same _ _ _) rfl⟩
      · rw [I3_len] at h7
        simp (maxSteps := 400000) (dsimp := false) only [h0, h1, h6, hg, hp0, hpl, hw, I3_len, e, h7, h8, hne, b1, b2, axs, axw, aresL, afill, Value.oneCell', Nat.reduceLT, Nat.reduceLeDiff, Nat.reduceEqDiff, Nat.reduceAdd, Nat.reduceMul, Nat.reduceSub, Nat.reduceBEq, Int.reduceLE, Int.reduceLT, Int.reduceToNat, Int.reduceNeg, Int.reduceEq, axt, ftK, ft3, AAll, ftQ, T3, tys]
        exact ⟨hlt, Live.mk (upd_same _ _ _) (by simp [I3_len])⟩
  · have hpl : ¬ (p : Int) < l.length := by omega
    rw [List.take_of_length_le hge] at hv
    simp (maxSteps := 400000) (dsimp := false) only [h0, h1, h6, hpl, I3_len, axs, axw, aresL, afill, Value.oneCell', Nat.reduceLT, Nat.reduceLeDiff, Nat.reduceEqDiff, Nat.reduceAdd, Nat.reduceMul, Nat.reduceSub, Nat.reduceBEq, Int.reduceLE, Int.reduceLT, Int.reduceToNat, Int.reduceNeg, Int.reduceEq, axt, ftK, ft3, AAll, ftQ, T3, tys]
    exact ⟨_, rfl, hv.sees (noIdsE_I3 _)⟩
theorem seee7650 {p : Prop} (h : p := by repeat' (first | exact True.intro | exact Sees.sc | exact Sees.none | ((with_reducible refine Sees.same ?_) <;> simp [noIds, noIdsL, noIdsE, noIdsE_U, noIdsE_UU, noIdsE_I3] <;> fail) | (refine Live.sees ?_ ?_ <;> first | assumption | (simp [noIdsE_U, noIdsE_UU, noIdsE_I3] <;> fail)) | (refine Sees.obj ?_ ?_ ?_ <;> first | exact ⟨_, _, by assumption, rfl⟩ | (simp [U_len, UU_len, I3_len] <;> fail) | (simp [noIdsE_U, noIdsE_UU, noIdsE_I3] <;> fail) | (simp [U, UU, upd] <;> fail) | (simp [U, UU, upd, neS, *] <;> fail)) | (refine Sees.of_seen 3 ?_ <;> simp [seen, upd, noIdsE, noIdsL, noIds, U, UU, Nat.add_assoc] <;> fail) | refine Sees.agg ?_ | refine And.intro ?_ ?_ | simp only [SeesL])) : p := h
theorem seee7651 {p : Prop} (h : p := by repeat' (first | exact True.intro | exact Sees.sc | exact Sees.none | ((with_reducible refine Sees.same ?_) <;> simp [noIds, noIdsL, noIdsE, noIdsE_U, noIdsE_UU, noIdsE_I3] <;> fail) | (refine Live.sees ?_ ?_ <;> first | assumption | (simp [noIdsE_U, noIdsE_UU, noIdsE_I3] <;> fail)) | (refine Sees.obj ?_ ?_ ?_ <;> first | exact ⟨_, _, by assumption, rfl⟩ | (simp [U_len, UU_len, I3_len] <;> fail) | (simp [noIdsE_U, noIdsE_UU, noIdsE_I3] <;> fail) | (simp [U, UU, upd, neS] <;> fail) | (simp [U, UU, upd, neS, *] <;> fail)) | refine Sees.agg ?_ | refine Sees.tup ?_ | refine And.intro ?_ ?_ | simp only [SeesL])) : p := h
theorem r3Touch (s : S3) (k : Int) (h : S3Ok s) : PCalls Try.prog 56 [T3 s, .sc (.int .u64 k)] (T3 (s3Touch s k)) := by
  have hle := h.b.le
  have hfs := h.b.fs
  have hfm := h.b.fm
  clear h
  obtain ⟨C, S, M, G⟩ := s
  simp only at hle hfs hfm
  have c1 := r3used S k (by omega) hfs
  have c2 := r3used M k (by omega) hfm
  unfold s3Touch
  simp only
  refine PCalls.intro2 Try.func56 rfl rfl Try.ntmps56 Try.results56 (by simp) fun n => ?_; simp (maxSteps := 400000) (dsimp := false) only [axs, axw, aresL, afill, Value.oneCell', Nat.reduceLT, Nat.reduceLeDiff, Nat.reduceEqDiff, Nat.reduceAdd, Nat.reduceMul, Nat.reduceSub, Nat.reduceBEq, Int.reduceLE, Int.reduceLT, Int.reduceToNat, Int.reduceNeg, Int.reduceEq, axt, ftK, ft3, AAll, ftQ, T3, tys]
  refine ACallK.strict rfl (c1) (by simp only [SeesL, axs, axt, AS.ev, AS.put, upd, inHeap, Nat.reduceLT, Nat.reduceEqDiff, Nat.reduceAdd, Nat.reduceBEq, T3]; exact seee7650) ?_; simp (maxSteps := 400000) (dsimp := false) only [axs, axw, aresL, afill, Value.oneCell', Nat.reduceLT, Nat.reduceLeDiff, Nat.reduceEqDiff, Nat.reduceAdd, Nat.reduceMul, Nat.reduceSub, Nat.reduceBEq, Int.reduceLE, Int.reduceLT, Int.reduceToNat, Int.reduceNeg, Int.reduceEq, axt, ftK, ft3, AAll, ftQ, T3, tys]
  refine ACallK.strict rfl (c2) (by simp only [SeesL, axs, axt, AS.ev, AS.put, upd, inHeap, Nat.reduceLT, Nat.reduceEqDiff, Nat.reduceAdd, Nat.reduceBEq, T3]; exact seee7650) ?_; simp (maxSteps := 400000) (dsimp := false) only [axs, axw, aresL, afill, Value.oneCell', Nat.reduceLT, Nat.reduceLeDiff, Nat.reduceEqDiff, Nat.reduceAdd, Nat.reduceMul, Nat.reduceSub, Nat.reduceBEq, Int.reduceLE, Int.reduceLT, Int.reduceToNat, Int.reduceNeg, Int.reduceEq, axt, ftK, ft3, AAll, ftQ, T3, tys]
  refine ⟨_, rfl, ?_⟩; simp (maxSteps := 400000) (dsimp := false) only [SeesL, axs, axw, aresL, afill, Value.oneCell', Nat.reduceLT, Nat.reduceLeDiff, Nat.reduceEqDiff, Nat.reduceAdd, Nat.reduceMul, Nat.reduceSub, Nat.reduceBEq, Int.reduceLE, Int.reduceLT, Int.reduceToNat, Int.reduceNeg, Int.reduceEq, axt, ftK, ft3, AAll, ftQ, T3, tys] <;> exact seee7651
theorem r3Drop (s : S3) (k : Int) (h : S3Ok s) : PCalls Try.prog 62 [T3 s, .sc (.int .u64 k)] (T3 (s3Drop s k)) := by
  have hle := h.b.le
  have hg := h.b.g
  clear h
  obtain ⟨C, S, M, G⟩ := s
  simp only at hle hg
  have c1 := r3without S k (by omega)
  have c2 := r3without M k (by omega)
  have c3 := rWithout G k (by omega)
  unfold s3Drop
  simp only
  refine PCalls.intro2 Try.func62 rfl rfl Try.ntmps62 Try.results62 (by simp) fun n => ?_; simp (maxSteps := 400000) (dsimp := false) only [axs, axw, aresL, afill, Value.oneCell', Nat.reduceLT, Nat.reduceLeDiff, Nat.reduceEqDiff, Nat.reduceAdd, Nat.reduceMul, Nat.reduceSub, Nat.reduceBEq, Int.reduceLE, Int.reduceLT, Int.reduceToNat, Int.reduceNeg, Int.reduceEq, axt, ftK, ft3, AAll, ftQ, T3, tys]
  refine ACallK.strict rfl (c1) (by simp only [SeesL, axs, axt, AS.ev, AS.put, upd, inHeap, Nat.reduceLT, Nat.reduceEqDiff, Nat.reduceAdd, Nat.reduceBEq, T3]; exact seee7650) ?_; simp (maxSteps := 400000) (dsimp := false) only [axs, axw, aresL, afill, Value.oneCell', Nat.reduceLT, Nat.reduceLeDiff, Nat.reduceEqDiff, Nat.reduceAdd, Nat.reduceMul, Nat.reduceSub, Nat.reduceBEq, Int.reduceLE, Int.reduceLT, Int.reduceToNat, Int.reduceNeg, Int.reduceEq, axt, ftK, ft3, AAll, ftQ, T3, tys]
  refine ACallK.strict rfl (c2) (by simp only [SeesL, axs, axt, AS.ev, AS.put, upd, inHeap, Nat.reduceLT, Nat.reduceEqDiff, Nat.reduceAdd, Nat.reduceBEq, T3]; exact seee7650) ?_; simp (maxSteps := 400000) (dsimp := false) only [axs, axw, aresL, afill, Value.oneCell', Nat.reduceLT, Nat.reduceLeDiff, Nat.reduceEqDiff, Nat.reduceAdd, Nat.reduceMul, Nat.reduceSub, Nat.reduceBEq, Int.reduceLE, Int.reduceLT, Int.reduceToNat, Int.reduceNeg, Int.reduceEq, axt, ftK, ft3, AAll, ftQ, T3, tys]
  refine ACallK.strict rfl (c3) (by simp only [SeesL, axs, axt, AS.ev, AS.put, upd, inHeap, Nat.reduceLT, Nat.reduceEqDiff, Nat.reduceAdd, Nat.reduceBEq, T3]; exact seee7650) ?_; simp (maxSteps := 400000) (dsimp := false) only [axs, axw, aresL, afill, Value.oneCell', Nat.reduceLT, Nat.reduceLeDiff, Nat.reduceEqDiff, Nat.reduceAdd, Nat.reduceMul, Nat.reduceSub, Nat.reduceBEq, Int.reduceLE, Int.reduceLT, Int.reduceToNat, Int.reduceNeg, Int.reduceEq, axt, ftK, ft3, AAll, ftQ, T3, tys]
  refine ⟨_, rfl, ?_⟩; simp (maxSteps := 400000) (dsimp := false) only [SeesL, axs, axw, aresL, afill, Value.oneCell', Nat.reduceLT, Nat.reduceLeDiff, Nat.reduceEqDiff, Nat.reduceAdd, Nat.reduceMul, Nat.reduceSub, Nat.reduceBEq, Int.reduceLE, Int.reduceLT, Int.reduceToNat, Int.reduceNeg, Int.reduceEq, axt, ftK, ft3, AAll, ftQ, T3, tys] <;> exact seee7651
theorem r3Resize (s : S3) (c : Int) (h : S3Ok s) (h0 : 1 ≤ capOf c) (h1 : capOf c ≤ 14) : PCalls Try.prog 67 [T3 s, .sc (.int .i64 c)] (.tup [T3 (s3Resize s c).1, .lst 1 (U (s3Resize s c).2)]) := by
  have hb := h.b
  have hB : S3B ⟨capOf c, s.S, s.M, s.G⟩ := ⟨h0, h1, hb.nd, hb.fs, hb.fm, hb.g, hb.le⟩
  obtain ⟨g1, g2, g3, g4⟩ := s3shrink_ok (z := capOf c) (by omega) hB
  have cc := rCap c
  have cs := r3shrink ⟨capOf c, s.S, s.M, s.G⟩ (capOf c) hB (by omega) (by omega)
  have cf := r3fall (s3shrink (capOf c) ⟨capOf c, s.S, s.M, s.G⟩).1 g1.c0 (by have := g1.c1; omega) (by have := g1.g; omega)
  unfold s3Resize
  clear g1 g2 g3 g4 hb hB h
  generalize s3shrink (capOf c) ⟨capOf c, s.S, s.M, s.G⟩ = R at *
  obtain ⟨C, S, M, G⟩ := s
  obtain ⟨R, out⟩ := R
  simp only at cs cf ⊢
  refine PCalls.intro2 Try.func67 rfl rfl Try.ntmps67 Try.results67 (by simp) fun n => ?_; simp (maxSteps := 400000) (dsimp := false) only [axs, axw, aresL, afill, Value.oneCell', Nat.reduceLT, Nat.reduceLeDiff, Nat.reduceEqDiff, Nat.reduceAdd, Nat.reduceMul, Nat.reduceSub, Nat.reduceBEq, Int.reduceLE, Int.reduceLT, Int.reduceToNat, Int.reduceNeg, Int.reduceEq, axt, ftK, ft3, AAll, ftQ, T3, tys]
  refine ACallK.strict rfl (cc) (by simp only [SeesL, axs, axt, AS.ev, AS.put, upd, inHeap, Nat.reduceLT, Nat.reduceEqDiff, Nat.reduceAdd, Nat.reduceBEq, T3]; exact seee7650) ?_; simp (maxSteps := 400000) (dsimp := false) only [axs, axw, aresL, afill, Value.oneCell', Nat.reduceLT, Nat.reduceLeDiff, Nat.reduceEqDiff, Nat.reduceAdd, Nat.reduceMul, Nat.reduceSub, Nat.reduceBEq, Int.reduceLE, Int.reduceLT, Int.reduceToNat, Int.reduceNeg, Int.reduceEq, axt, ftK, ft3, AAll, ftQ, T3, tys]
  refine ACallK.strict rfl (cs) (by simp only [SeesL, axs, axt, AS.ev, AS.put, upd, inHeap, Nat.reduceLT, Nat.reduceEqDiff, Nat.reduceAdd, Nat.reduceBEq, T3]; exact seee7650) ?_; simp (maxSteps := 400000) (dsimp := false) only [axs, axw, aresL, afill, Value.oneCell', Nat.reduceLT, Nat.reduceLeDiff, Nat.reduceEqDiff, Nat.reduceAdd, Nat.reduceMul, Nat.reduceSub, Nat.reduceBEq, Int.reduceLE, Int.reduceLT, Int.reduceToNat, Int.reduceNeg, Int.reduceEq, axt, ftK, ft3, AAll, ftQ, T3, tys]
  refine ACallK.strict rfl (cf) (by simp only [SeesL, axs, axt, AS.ev, AS.put, upd, inHeap, Nat.reduceLT, Nat.reduceEqDiff, Nat.reduceAdd, Nat.reduceBEq, T3]; exact seee7650) ?_; simp (maxSteps := 400000) (dsimp := false) only [axs, axw, aresL, afill, Value.oneCell', Nat.reduceLT, Nat.reduceLeDiff, Nat.reduceEqDiff, Nat.reduceAdd, Nat.reduceMul, Nat.reduceSub, Nat.reduceBEq, Int.reduceLE, Int.reduceLT, Int.reduceToNat, Int.reduceNeg, Int.reduceEq, axt, ftK, ft3, AAll, ftQ, T3, tys]
  refine ⟨_, rfl, ?_⟩; simp (maxSteps := 400000) (dsimp := false) only [SeesL, axs, axw, aresL, afill, Value.oneCell', Nat.reduceLT, Nat.reduceLeDiff, Nat.reduceEqDiff, Nat.reduceAdd, Nat.reduceMul, Nat.reduceSub, Nat.reduceBEq, Int.reduceLE, Int.reduceLT, Int.reduceToNat, Int.reduceNeg, Int.reduceEq, axt, ftK, ft3, AAll, ftQ, T3, tys] <;> exact seee7651
theorem r3Keys (s : S3) (h : S3Ok s) : PCalls Try.prog 51 [T3 s] (.lst 1 (U (ks3 s))) := by
  have hle := h.b.le
  clear h
  obtain ⟨C, S, M, G⟩ := s
  simp only at hle
  have ck := r3keys M (by omega)
  have hkM : (keyP M).length = M.length := keyP_len M
  have hkS : (keyP S).length = S.length := keyP_len S
  have hlS : S.length ≤ 100000 := by omega
  have b1 : (S.length + M.length) * 8 ≤ 140737488355328 := by omega
  have b2 : S.length + M.length ≤ 1099511627776 := by omega
  show PCalls _ _ _ (.lst 1 (U (keyP S ++ keyP M)))
  refine PCalls.intro2 Try.func51 rfl rfl Try.ntmps51 Try.results51 (by simp) fun n => ?_; simp (maxSteps := 400000) (dsimp := false) only [axs, axw, aresL, afill, Value.oneCell', Nat.reduceLT, Nat.reduceLeDiff, Nat.reduceEqDiff, Nat.reduceAdd, Nat.reduceMul, Nat.reduceSub, Nat.reduceBEq, Int.reduceLE, Int.reduceLT, Int.reduceToNat, Int.reduceNeg, Int.reduceEq, axt, ftK, ft3, AAll, ftQ, T3, tys]
  refine ADraw.planQR [] [2] [(0, true), (1, true), (3, true), (4, true), (2, true), (5, true), (6, true), (7, true)] [(0, 0), (0, 0), (1, 0), (1, 0), (0, 2), (0, 0), (0, 0), (0, 0)] mixed (by kernel_rfl) (by kernel_rfl) ?_
  simp (maxSteps := 400000) (dsimp := false) only [axs, axw, aresL, afill, Value.oneCell', Nat.reduceLT, Nat.reduceLeDiff, Nat.reduceEqDiff, Nat.reduceAdd, Nat.reduceMul, Nat.reduceSub, Nat.reduceBEq, Int.reduceLE, Int.reduceLT, Int.reduceToNat, Int.reduceNeg, Int.reduceEq, axt, ftK, ft3, AAll, ftQ, T3, tys]
  refine AQuietK.intro rfl rfl (c3keys S hlS _ _) (by intro id hid; exact kH_low _ _ _ _ _ hid) ?_
  rcases S.length.eq_zero_or_pos with h0 | h0
  · obtain rfl : S = [] := List.length_eq_zero_iff.1 h0
    have hkn : keyP [] = [] := rfl
    rw [hkn, List.nil_append]
    simp only [List.length_nil, Nat.zero_add] at b1 b2
    simp (maxSteps := 400000) (dsimp := false) only [List.length_nil, kV, kH, Nat.mul_zero, Nat.add_zero, axs, axw, aresL, afill, Value.oneCell', Nat.reduceLT, Nat.reduceLeDiff, Nat.reduceEqDiff, Nat.reduceAdd, Nat.reduceMul, Nat.reduceSub, Nat.reduceBEq, Int.reduceLE, Int.reduceLT, Int.reduceToNat, Int.reduceNeg, Int.reduceEq, axt, ftK, ft3, AAll, ftQ, T3, tys]
    cases M with
    | nil =>
      have hu : U (keyP ([] : List (Int × Int))) = [] := rfl
      rw [hu] at ck
      refine ACallP.pure rfl (ck) ?_; simp (maxSteps := 400000) (dsimp := false) only [axs, axw, aresL, afill, Value.oneCell', Nat.reduceLT, Nat.reduceLeDiff, Nat.reduceEqDiff, Nat.reduceAdd, Nat.reduceMul, Nat.reduceSub, Nat.reduceBEq, Int.reduceLE, Int.reduceLT, Int.reduceToNat, Int.reduceNeg, Int.reduceEq, axt, ftK, ft3, AAll, ftQ, T3, tys]
      exact ⟨_, rfl, Sees.none⟩
    | cons y M =>
      have hu : U (keyP (y :: M)) = [.sc (.int .u64 y.1)] :: U (keyP M) := rfl
      rw [hu] at ck
      rw [List.length_cons] at b1 b2
      have hul : (U (keyP M)).length = M.length := by rw [U_len, keyP_len]
      have b3 : M.length ≤ 1099511627775 := by omega
      refine ACallP.pure rfl (ck) ?_; simp (maxSteps := 400000) (dsimp := false) only [hul, b1, b2, b3, axs, axw, aresL, afill, Value.oneCell', Nat.reduceLT, Nat.reduceLeDiff, Nat.reduceEqDiff, Nat.reduceAdd, Nat.reduceMul, Nat.reduceSub, Nat.reduceBEq, Int.reduceLE, Int.reduceLT, Int.reduceToNat, Int.reduceNeg, Int.reduceEq, axt, ftK, ft3, AAll, ftQ, T3, tys]
      rw [← hu]
      refine ⟨_, rfl, (Live.mk (upd_same _ _ _) (by rw [hu]; simp [hul]) : Live 54 1 _ (U (keyP (y :: M))) _).sees (noIdsE_U _)⟩
  · obtain ⟨q, hq⟩ : ∃ q, S.length = q + 1 := ⟨S.length - 1, by omega⟩
    have hkT : List.take (q + 1) S = S := List.take_of_length_le (by omega)
    rw [hq] at b1 b2
    have hul : (U (keyP M)).length = M.length := by rw [U_len, keyP_len]
    have hus : (U (keyP S)).length = q + 1 := by rw [U_len, keyP_len, hq]
    simp (maxSteps := 400000) (dsimp := false) only [hq, kV, kH_low, Nat.lt_add_one, axs, axw, aresL, afill, Value.oneCell', Nat.reduceLT, Nat.reduceLeDiff, Nat.reduceEqDiff, Nat.reduceAdd, Nat.reduceMul, Nat.reduceSub, Nat.reduceBEq, Int.reduceLE, Int.reduceLT, Int.reduceToNat, Int.reduceNeg, Int.reduceEq, axt, ftK, ft3, AAll, ftQ, T3, tys]
    refine ACallP.pure rfl (ck) ?_; simp (maxSteps := 400000) (dsimp := false) only [hq, kV, kH_low, Nat.lt_add_one, kH_row, kR, hkT, hul, hus, b1, b2, axs, axw, aresL, afill, Value.oneCell', Nat.reduceLT, Nat.reduceLeDiff, Nat.reduceEqDiff, Nat.reduceAdd, Nat.reduceMul, Nat.reduceSub, Nat.reduceBEq, Int.reduceLE, Int.reduceLT, Int.reduceToNat, Int.reduceNeg, Int.reduceEq, axt, ftK, ft3, AAll, ftQ, T3, tys]
    rw [U_append]
    exact ⟨_, rfl, (Live.mk (upd_same _ _ _) (by simp [hul, hus]) : Live 54 1 _ (U (keyP S) ++ U (keyP M)) _).sees (by rw [← U_append]; exact noIdsE_U _)⟩
theorem r3Admit (s : S3) (k : Int) (h : S3Ok s) : PCalls Try.prog 84 [T3 s, .sc (.int .u64 k)] (.tup [T3 (s3Admit s k).1, .lst 1 (U (s3Admit s k).2)]) := by
  have ck := r3Keys s h
  have hkl := ks3_len s
  have hb := h.b
  have hle := hb.le
  have c0 := hb.c0
  have c1 := hb.c1
  have hgl := hb.g
  have ch := rHas (ks3 s) k (by omega)
  have hB := s3B_less hb k
  obtain ⟨g1, g2, g3, g4⟩ := s3shrink_ok (z := s.C - 1) (by omega) hB
  have cs := r3shrink ⟨s.C, s.S, s.M, without s.G k⟩ (s.C - 1) hB (by omega) (by omega)
  have cg := rHas s.G k (by omega)
  have cw := rWithout s.G k (by omega)
  have w1 : IntKind.i64.wrap (s.C - 1) = s.C - 1 := wrap_in (by omega) (by omega)
  have gle := g1.le
  unfold s3Admit
  clear g1 g2 g3 g4 hb hB h hkl
  generalize s3shrink (s.C - 1) ⟨s.C, s.S, s.M, without s.G k⟩ = R at *
  generalize ks3 s = K at *
  obtain ⟨C, S, M, G⟩ := s
  obtain ⟨⟨C2, S2, M2, G2⟩, out⟩ := R
  simp only at *
  by_cases hk : k ∈ K
  · rw [if_pos hk]
    refine PCalls.intro2 Try.func84 rfl rfl Try.ntmps84 Try.results84 (by simp) fun n => ?_; simp (maxSteps := 400000) (dsimp := false) only [axs, axw, aresL, afill, Value.oneCell', Nat.reduceLT, Nat.reduceLeDiff, Nat.reduceEqDiff, Nat.reduceAdd, Nat.reduceMul, Nat.reduceSub, Nat.reduceBEq, Int.reduceLE, Int.reduceLT, Int.reduceToNat, Int.reduceNeg, Int.reduceEq, axt, ftK, ft3, AAll, ftQ, T3, tys]
    refine ACallK.strict rfl (ck) (by simp only [SeesL, axs, axt, AS.ev, AS.put, upd, inHeap, Nat.reduceLT, Nat.reduceEqDiff, Nat.reduceAdd, Nat.reduceBEq, T3]; exact seee7650) ?_; simp (maxSteps := 400000) (dsimp := false) only [axs, axw, aresL, afill, Value.oneCell', Nat.reduceLT, Nat.reduceLeDiff, Nat.reduceEqDiff, Nat.reduceAdd, Nat.reduceMul, Nat.reduceSub, Nat.reduceBEq, Int.reduceLE, Int.reduceLT, Int.reduceToNat, Int.reduceNeg, Int.reduceEq, axt, ftK, ft3, AAll, ftQ, T3, tys]
    refine ACallK.strict rfl (ch) (by simp only [SeesL, hk, axs, axt, AS.ev, AS.put, upd, inHeap, Nat.reduceLT, Nat.reduceEqDiff, Nat.reduceAdd, Nat.reduceBEq, T3]; exact seee7650) ?_; simp (maxSteps := 400000) (dsimp := false) only [hk, axs, axw, aresL, afill, Value.oneCell', Nat.reduceLT, Nat.reduceLeDiff, Nat.reduceEqDiff, Nat.reduceAdd, Nat.reduceMul, Nat.reduceSub, Nat.reduceBEq, Int.reduceLE, Int.reduceLT, Int.reduceToNat, Int.reduceNeg, Int.reduceEq, axt, ftK, ft3, AAll, ftQ, T3, tys]
    refine ⟨_, rfl, ?_⟩; simp (maxSteps := 400000) (dsimp := false) only [SeesL, axs, axw, aresL, afill, Value.oneCell', Nat.reduceLT, Nat.reduceLeDiff, Nat.reduceEqDiff, Nat.reduceAdd, Nat.reduceMul, Nat.reduceSub, Nat.reduceBEq, Int.reduceLE, Int.reduceLT, Int.reduceToNat, Int.reduceNeg, Int.reduceEq, axt, ftK, ft3, AAll, ftQ, T3, tys] <;> exact seee7651
  · rw [if_neg hk]
    by_cases hG : k ∈ G
    · have hcm : 1 + M2.length = M2.length + 1 := Nat.add_comm _ _
      have b1 : (M2.length + 1) * 16 ≤ 140737488355328 := by omega
      have b2 : M2.length + 1 ≤ 1099511627776 := by omega
      have hcons : I3 ((k, 0) :: M2) = [.sc (.int .u64 k), .sc (.int .i64 0)] :: I3 M2 := rfl
      rw [show s3Come (decide (k ∈ G)) (S3.mk C2 S2 M2 G2) k = S3.mk C2 S2 ((k, 0) :: M2) G2 from by unfold s3Come; rw [if_pos (decide_eq_true hG)]]
      refine PCalls.intro2 Try.func84 rfl rfl Try.ntmps84 Try.results84 (by simp) fun n => ?_; simp (maxSteps := 400000) (dsimp := false) only [axs, axw, aresL, afill, Value.oneCell', Nat.reduceLT, Nat.reduceLeDiff, Nat.reduceEqDiff, Nat.reduceAdd, Nat.reduceMul, Nat.reduceSub, Nat.reduceBEq, Int.reduceLE, Int.reduceLT, Int.reduceToNat, Int.reduceNeg, Int.reduceEq, axt, ftK, ft3, AAll, ftQ, T3, tys]
      refine ACallK.strict rfl (ck) (by simp only [SeesL, axs, axt, AS.ev, AS.put, upd, inHeap, Nat.reduceLT, Nat.reduceEqDiff, Nat.reduceAdd, Nat.reduceBEq, T3]; exact seee7650) ?_; simp (maxSteps := 400000) (dsimp := false) only [axs, axw, aresL, afill, Value.oneCell', Nat.reduceLT, Nat.reduceLeDiff, Nat.reduceEqDiff, Nat.reduceAdd, Nat.reduceMul, Nat.reduceSub, Nat.reduceBEq, Int.reduceLE, Int.reduceLT, Int.reduceToNat, Int.reduceNeg, Int.reduceEq, axt, ftK, ft3, AAll, ftQ, T3, tys]
      refine ACallK.strict rfl (ch) (by simp only [SeesL, hk, axs, axt, AS.ev, AS.put, upd, inHeap, Nat.reduceLT, Nat.reduceEqDiff, Nat.reduceAdd, Nat.reduceBEq, T3]; exact seee7650) ?_; simp (maxSteps := 400000) (dsimp := false) only [hk, axs, axw, aresL, afill, Value.oneCell', Nat.reduceLT, Nat.reduceLeDiff, Nat.reduceEqDiff, Nat.reduceAdd, Nat.reduceMul, Nat.reduceSub, Nat.reduceBEq, Int.reduceLE, Int.reduceLT, Int.reduceToNat, Int.reduceNeg, Int.reduceEq, axt, ftK, ft3, AAll, ftQ, T3, tys]
      refine ACallK.strict rfl (cg) (by simp only [SeesL, hG, axs, axt, AS.ev, AS.put, upd, inHeap, Nat.reduceLT, Nat.reduceEqDiff, Nat.reduceAdd, Nat.reduceBEq, T3]; exact seee7650) ?_; simp (maxSteps := 400000) (dsimp := false) only [hG, axs, axw, aresL, afill, Value.oneCell', Nat.reduceLT, Nat.reduceLeDiff, Nat.reduceEqDiff, Nat.reduceAdd, Nat.reduceMul, Nat.reduceSub, Nat.reduceBEq, Int.reduceLE, Int.reduceLT, Int.reduceToNat, Int.reduceNeg, Int.reduceEq, axt, ftK, ft3, AAll, ftQ, T3, tys]
      refine ACallK.strict rfl (cw) (by simp only [SeesL, axs, axt, AS.ev, AS.put, upd, inHeap, Nat.reduceLT, Nat.reduceEqDiff, Nat.reduceAdd, Nat.reduceBEq, T3]; exact seee7650) ?_; simp (maxSteps := 400000) (dsimp := false) only [axs, axw, aresL, afill, Value.oneCell', Nat.reduceLT, Nat.reduceLeDiff, Nat.reduceEqDiff, Nat.reduceAdd, Nat.reduceMul, Nat.reduceSub, Nat.reduceBEq, Int.reduceLE, Int.reduceLT, Int.reduceToNat, Int.reduceNeg, Int.reduceEq, axt, ftK, ft3, AAll, ftQ, T3, tys]
      refine ACallK.strict rfl (cs) (by simp only [SeesL, w1, axs, axt, AS.ev, AS.put, upd, inHeap, Nat.reduceLT, Nat.reduceEqDiff, Nat.reduceAdd, Nat.reduceBEq, T3]; exact seee7650) ?_; simp (maxSteps := 400000) (dsimp := false) only [w1, axs, axw, aresL, afill, Value.oneCell', Nat.reduceLT, Nat.reduceLeDiff, Nat.reduceEqDiff, Nat.reduceAdd, Nat.reduceMul, Nat.reduceSub, Nat.reduceBEq, Int.reduceLE, Int.reduceLT, Int.reduceToNat, Int.reduceNeg, Int.reduceEq, axt, ftK, ft3, AAll, ftQ, T3, tys]
      simp (maxSteps := 400000) (dsimp := false) only [hG, I3_len, b1, b2, hcm, axs, axw, aresL, afill, Value.oneCell', Nat.reduceLT, Nat.reduceLeDiff, Nat.reduceEqDiff, Nat.reduceAdd, Nat.reduceMul, Nat.reduceSub, Nat.reduceBEq, Int.reduceLE, Int.reduceLT, Int.reduceToNat, Int.reduceNeg, Int.reduceEq, axt, ftK, ft3, AAll, ftQ, T3, tys]
      refine ⟨_, rfl, ?_⟩; simp (maxSteps := 400000) (dsimp := false) only [SeesL, axs, axw, aresL, afill, Value.oneCell', Nat.reduceLT, Nat.reduceLeDiff, Nat.reduceEqDiff, Nat.reduceAdd, Nat.reduceMul, Nat.reduceSub, Nat.reduceBEq, Int.reduceLE, Int.reduceLT, Int.reduceToNat, Int.reduceNeg, Int.reduceEq, axt, ftK, ft3, AAll, ftQ, T3, tys] <;> exact seee7651
    · have hcm : 1 + S2.length = S2.length + 1 := Nat.add_comm _ _
      have b1 : (S2.length + 1) * 16 ≤ 140737488355328 := by omega
      have b2 : S2.length + 1 ≤ 1099511627776 := by omega
      have hcons : I3 ((k, 0) :: S2) = [.sc (.int .u64 k), .sc (.int .i64 0)] :: I3 S2 := rfl
      rw [show s3Come (decide (k ∈ G)) (S3.mk C2 S2 M2 G2) k = S3.mk C2 ((k, 0) :: S2) M2 G2 from by unfold s3Come; rw [if_neg (by simp [hG])]]
      refine PCalls.intro2 Try.func84 rfl rfl Try.ntmps84 Try.results84 (by simp) fun n => ?_; simp (maxSteps := 400000) (dsimp := false) only [axs, axw, aresL, afill, Value.oneCell', Nat.reduceLT, Nat.reduceLeDiff, Nat.reduceEqDiff, Nat.reduceAdd, Nat.reduceMul, Nat.reduceSub, Nat.reduceBEq, Int.reduceLE, Int.reduceLT, Int.reduceToNat, Int.reduceNeg, Int.reduceEq, axt, ftK, ft3, AAll, ftQ, T3, tys]
      refine ACallK.strict rfl (ck) (by simp only [SeesL, axs, axt, AS.ev, AS.put, upd, inHeap, Nat.reduceLT, Nat.reduceEqDiff, Nat.reduceAdd, Nat.reduceBEq, T3]; exact seee7650) ?_; simp (maxSteps := 400000) (dsimp := false) only [axs, axw, aresL, afill, Value.oneCell', Nat.reduceLT, Nat.reduceLeDiff, Nat.reduceEqDiff, Nat.reduceAdd, Nat.reduceMul, Nat.reduceSub, Nat.reduceBEq, Int.reduceLE, Int.reduceLT, Int.reduceToNat, Int.reduceNeg, Int.reduceEq, axt, ftK, ft3, AAll, ftQ, T3, tys]
      refine ACallK.strict rfl (ch) (by simp only [SeesL, hk, axs, axt, AS.ev, AS.put, upd, inHeap, Nat.reduceLT, Nat.reduceEqDiff, Nat.reduceAdd, Nat.reduceBEq, T3]; exact seee7650) ?_; simp (maxSteps := 400000) (dsimp := false) only [hk, axs, axw, aresL, afill, Value.oneCell', Nat.reduceLT, Nat.reduceLeDiff, Nat.reduceEqDiff, Nat.reduceAdd, Nat.reduceMul, Nat.reduceSub, Nat.reduceBEq, Int.reduceLE, Int.reduceLT, Int.reduceToNat, Int.reduceNeg, Int.reduceEq, axt, ftK, ft3, AAll, ftQ, T3, tys]
      refine ACallK.strict rfl (cg) (by simp only [SeesL, hG, axs, axt, AS.ev, AS.put, upd, inHeap, Nat.reduceLT, Nat.reduceEqDiff, Nat.reduceAdd, Nat.reduceBEq, T3]; exact seee7650) ?_; simp (maxSteps := 400000) (dsimp := false) only [hG, axs, axw, aresL, afill, Value.oneCell', Nat.reduceLT, Nat.reduceLeDiff, Nat.reduceEqDiff, Nat.reduceAdd, Nat.reduceMul, Nat.reduceSub, Nat.reduceBEq, Int.reduceLE, Int.reduceLT, Int.reduceToNat, Int.reduceNeg, Int.reduceEq, axt, ftK, ft3, AAll, ftQ, T3, tys]
      refine ACallK.strict rfl (cw) (by simp only [SeesL, axs, axt, AS.ev, AS.put, upd, inHeap, Nat.reduceLT, Nat.reduceEqDiff, Nat.reduceAdd, Nat.reduceBEq, T3]; exact seee7650) ?_; simp (maxSteps := 400000) (dsimp := false) only [axs, axw, aresL, afill, Value.oneCell', Nat.reduceLT, Nat.reduceLeDiff, Nat.reduceEqDiff, Nat.reduceAdd, Nat.reduceMul, Nat.reduceSub, Nat.reduceBEq, Int.reduceLE, Int.reduceLT, Int.reduceToNat, Int.reduceNeg, Int.reduceEq, axt, ftK, ft3, AAll, ftQ, T3, tys]
      refine ACallK.strict rfl (cs) (by simp only [SeesL, w1, axs, axt, AS.ev, AS.put, upd, inHeap, Nat.reduceLT, Nat.reduceEqDiff, Nat.reduceAdd, Nat.reduceBEq, T3]; exact seee7650) ?_; simp (maxSteps := 400000) (dsimp := false) only [w1, axs, axw, aresL, afill, Value.oneCell', Nat.reduceLT, Nat.reduceLeDiff, Nat.reduceEqDiff, Nat.reduceAdd, Nat.reduceMul, Nat.reduceSub, Nat.reduceBEq, Int.reduceLE, Int.reduceLT, Int.reduceToNat, Int.reduceNeg, Int.reduceEq, axt, ftK, ft3, AAll, ftQ, T3, tys]
      simp (maxSteps := 400000) (dsimp := false) only [hG, I3_len, b1, b2, hcm, axs, axw, aresL, afill, Value.oneCell', Nat.reduceLT, Nat.reduceLeDiff, Nat.reduceEqDiff, Nat.reduceAdd, Nat.reduceMul, Nat.reduceSub, Nat.reduceBEq, Int.reduceLE, Int.reduceLT, Int.reduceToNat, Int.reduceNeg, Int.reduceEq, axt, ftK, ft3, AAll, ftQ, T3, tys]
      refine ⟨_, rfl, ?_⟩; simp (maxSteps := 400000) (dsimp := false) only [SeesL, axs, axw, aresL, afill, Value.oneCell', Nat.reduceLT, Nat.reduceLeDiff, Nat.reduceEqDiff, Nat.reduceAdd, Nat.reduceMul, Nat.reduceSub, Nat.reduceBEq, Int.reduceLE, Int.reduceLT, Int.reduceToNat, Int.reduceNeg, Int.reduceEq, axt, ftK, ft3, AAll, ftQ, T3, tys] <;> exact seee7651
end Go.Al
