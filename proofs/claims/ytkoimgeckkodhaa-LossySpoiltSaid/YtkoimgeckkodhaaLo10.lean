/- A map that forgets: what fits fits a begin of it; what doesn't is told by the same place. Conditions: the numbers fit their kinds. -/
import Derived.Test.YtkoimgeckkodhaaLo9
set_option linter.unusedVariables false
set_option linter.unusedSimpArgs false
set_option maxRecDepth 20000
set_option maxHeartbeats 6400000
-- NOIDS: noIdsE_PR, noIdsE_OL, noIdsE_AL
-- LENS: PR_len, OL_len, AL_len
namespace Go.Al
open Go.Proofs
theorem op_of {x : List Value} (h : FitK [some .i64, some .u64, some .u64, some .i64] x) : ∃ a : LOp, True ∧ x.map AV.sc = a.cells := by
  simp only [FitK] at h
  obtain ⟨a, _, rfl, _, b, _, rfl, _, c, _, rfl, _, d, _, rfl, _, rfl⟩ := h
  exact ⟨⟨a, b, c, d⟩, trivial, rfl⟩
theorem rows_OL {es : List (List Value)} (h : ∀ x ∈ es, FitK [some .i64, some .u64, some .u64, some .i64] x) : ∃ l : List LOp, (es.map fun e => e.map AV.sc) = OL l ∧ l.length = es.length := by
  obtain ⟨l, h1, _, h2⟩ := rows_of LOp.cells (fun _ => True) (fun x hx => op_of hx) h
  exact ⟨l, h1, h2⟩
theorem pair_of {x : List Value} (h : FitK [some .u64, some .u64] x) : ∃ a : Int × Int, True ∧ x.map AV.sc = [.sc (.int .u64 a.1), .sc (.int .u64 a.2)] := by
  simp only [FitK] at h
  obtain ⟨a, _, rfl, _, b, _, rfl, _, rfl⟩ := h
  exact ⟨(a, b), trivial, rfl⟩
theorem ans_of {x : List AV} (h : FitN [.sc none, .sc (some .u64), .sc (some .i64), .row [some .u64, some .u64], .sc (some .i64)] x) : ∃ a : LAns, True ∧ x = a.cells := by
  simp only [FitN] at h
  obtain ⟨hit, _, rfl, v, _, rfl, _, n, _, rfl, _, es, _, rfl, h1, _, e, _, rfl, _, rfl⟩ := h
  obtain ⟨out, h2, _, _⟩ := rows_of (fun a : Int × Int => [AV.sc (.int .u64 a.1), .sc (.int .u64 a.2)]) (fun _ => True) (fun x hx => pair_of hx) h1
  refine ⟨⟨hit, v, n, out, e⟩, trivial, ?_⟩
  unfold LAns.cells
  rw [h2]
  rfl
theorem rows_AL {es : List (List AV)} (h : ∀ x ∈ es, FitN [.sc none, .sc (some .u64), .sc (some .i64), .row [some .u64, some .u64], .sc (some .i64)] x) : ∃ bs : List LAns, es = AL bs ∧ bs.length = es.length := by
  obtain ⟨l, h1, _, h2⟩ := rowsN_of LAns.cells (fun _ => True) (fun x hx => ans_of hx) h
  exact ⟨l, h1, h2⟩
theorem few_iff {bs : List LAns} : fewB bs = true ↔ bs.length ≤ 60 ∧ ∀ a ∈ bs, a.out.length ≤ 30 := by unfold fewB; exact decide_eq_true_iff
section
variable {l : List LOp} {bs : List LAns}
theorem getD_take {α : Type} (l : List α) (k i : Nat) (d : α) (h : i < k) : (l.take k).getD i d = l.getD i d := by
  rw [List.getD_eq_getElem?_getD, List.getD_eq_getElem?_getD, List.getElem?_take, if_pos h]
theorem mapAt_take (l : List LOp) (bs : List LAns) (k : Nat) : ∀ i, i ≤ k → mapAt (l.take k) (bs.take k) i = mapAt l bs i
  | 0, _ => rfl
  | i + 1, h => by
    show behindM _ _ _ = behindM _ _ _
    rw [mapAt_take l bs k i (by omega), getD_take _ _ _ _ (by omega), getD_take _ _ _ _ (by omega)]
theorem fitAt_take (l : List LOp) (bs : List LAns) {k i : Nat} (h : i < k) : fitAt (l.take k) (bs.take k) i = fitAt l bs i := by
  unfold fitAt
  rw [mapAt_take l bs k i (by omega), getD_take _ _ _ _ h, getD_take _ _ _ _ h, List.length_take]
  have e : decide (i < min k bs.length) = decide (i < bs.length) := decide_eq_decide.2 ⟨fun h => by omega, fun h => by omega⟩
  rw [e]
/-- What a begin tells. -/
theorem wk_take (e : l.length = bs.length) {k : Nat} (hk : k ≤ l.length) : wkN (l.take k) (bs.take k) = if 0 ≤ wkN l bs ∧ wkN l bs < k then wkN l bs else -1 := by
  have ht : (l.take k).length = k := by rw [List.length_take]; omega
  have hb : (bs.take k).length = k := by rw [List.length_take]; omega
  rcases wrongN_cases l bs with ⟨h1, h2⟩ | ⟨p, h1, h2, h3, h4⟩
  · have n1 : wrongN (l.take k) (bs.take k) = none := wrongN_none fun q hq => by rw [fitAt_take l bs (by omega)]; exact h2 q (by omega)
    unfold wkN
    simp only [n1, h1]
    rw [if_neg (by omega), if_neg (by rw [if_neg (by omega)]; omega)]
  · have w1 : wkN l bs = p := by unfold wkN; rw [h1]
    rw [w1]
    by_cases hp : p < k
    · have n1 : wrongN (l.take k) (bs.take k) = some p := wrongN_at (by omega) (by rw [fitAt_take l bs hp]; exact h3) (fun q hq => by rw [fitAt_take l bs (by omega)]; exact h4 q hq)
      rw [if_pos (by omega)]
      unfold wkN
      rw [n1]
    · have n1 : wrongN (l.take k) (bs.take k) = none := wrongN_none fun q hq => by rw [fitAt_take l bs (by omega)]; exact h4 q (by omega)
      rw [if_neg (by omega)]
      unfold wkN
      simp only [n1]
      rw [if_neg (by omega)]
end
theorem seee1d90 {p : Prop} (h : p := by repeat' (first | exact True.intro | exact Sees.sc | exact Sees.none | ((with_reducible refine Sees.same ?_) <;> simp [noIds, noIdsL, noIdsE, noIdsE_U, noIdsE_UU, noIdsE_PR, noIdsE_OL, noIdsE_AL] <;> fail) | (refine Live.sees ?_ ?_ <;> first | assumption | (simp [noIdsE_U, noIdsE_UU, noIdsE_PR, noIdsE_OL, noIdsE_AL] <;> fail)) | (refine Sees.obj ?_ ?_ ?_ <;> first | exact ⟨_, _, by assumption, rfl⟩ | (simp [U_len, UU_len, PR_len, OL_len, AL_len] <;> fail) | (simp [noIdsE_U, noIdsE_UU, noIdsE_PR, noIdsE_OL, noIdsE_AL] <;> fail) | (simp [U, UU, upd] <;> fail) | (simp [U, UU, upd, neS, *] <;> fail)) | (refine Sees.of_seen 3 ?_ <;> simp [seen, upd, noIdsE, noIdsL, noIds, U, UU, Nat.add_assoc] <;> fail) | refine Sees.agg ?_ | refine And.intro ?_ ?_ | simp only [SeesL])) : p := h
theorem law_LossyParts (e0 : List (List Value)) (f0 : ∀ x ∈ e0, FitK [some .i64, some .u64, some .u64, some .i64] x) (e1 : List (List AV)) (f1 : ∀ x ∈ e1, FitN [.sc none, .sc (some .u64), .sc (some .i64), .row [some .u64, some .u64], .sc (some .i64)] x) (c : Int) (w : (Lit.int .u8 c).wf = true) :
    PCalls Try.prog 6 [.lst 4 (e0.map fun e => e.map .sc), .lst 5 e1, .sc (.int .u8 c)] (.sc (.bool true)) := by
  obtain ⟨l, hl, _⟩ := rows_OL f0
  obtain ⟨bs, rfl, _⟩ := rows_AL f1
  rw [hl]
  have hc : 0 ≤ c ∧ c < 256 := by
    simp [Lit.wf, IntKind.min, IntKind.max, IntKind.signed, IntKind.bits] at w
    omega
  refine PCalls.intro2 Try.func6 rfl rfl Try.ntmps6 Try.results6 (by simp) fun n => ?_; simp (maxSteps := 400000) (dsimp := false) only [axs, axw, aresL, afill, Value.oneCell', Nat.reduceLT, Nat.reduceLeDiff, Nat.reduceEqDiff, Nat.reduceAdd, Nat.reduceMul, Nat.reduceSub, Nat.reduceBEq, Int.reduceLE, Int.reduceLT, Int.reduceToNat, Int.reduceNeg, Int.reduceEq, axt, ftK, ft3, AAll, ftQ, tys]
  refine ACallK.strict rfl (awake22) (by simp only [SeesL, OL_len, axs, axt, AS.ev, AS.put, upd, inHeap, Nat.reduceLT, Nat.reduceEqDiff, Nat.reduceAdd, Nat.reduceBEq] <;> exact seee1d90) ?_; simp (maxSteps := 400000) (dsimp := false) only [OL_len, axs, axw, aresL, afill, Value.oneCell', Nat.reduceLT, Nat.reduceLeDiff, Nat.reduceEqDiff, Nat.reduceAdd, Nat.reduceMul, Nat.reduceSub, Nat.reduceBEq, Int.reduceLE, Int.reduceLT, Int.reduceToNat, Int.reduceNeg, Int.reduceEq, axt, ftK, ft3, AAll, ftQ, tys]
  by_cases h60 : (l.length : Int) > 60
  · simp (maxSteps := 400000) (dsimp := false) only [h60, axs, axw, aresL, afill, Value.oneCell', Nat.reduceLT, Nat.reduceLeDiff, Nat.reduceEqDiff, Nat.reduceAdd, Nat.reduceMul, Nat.reduceSub, Nat.reduceBEq, Int.reduceLE, Int.reduceLT, Int.reduceToNat, Int.reduceNeg, Int.reduceEq, axt, ftK, ft3, AAll, ftQ, tys]
    exact ⟨_, rfl, Sees.sc⟩
  · simp (maxSteps := 400000) (dsimp := false) only [h60, axs, axw, aresL, afill, Value.oneCell', Nat.reduceLT, Nat.reduceLeDiff, Nat.reduceEqDiff, Nat.reduceAdd, Nat.reduceMul, Nat.reduceSub, Nat.reduceBEq, Int.reduceLE, Int.reduceLT, Int.reduceToNat, Int.reduceNeg, Int.reduceEq, axt, ftK, ft3, AAll, ftQ, tys]
    cases hf : fewB bs with
    | false =>
      have cf := rFew bs
      rw [hf] at cf
      refine ACallK.strict rfl (cf) (by simp only [SeesL, AL_len, axs, axt, AS.ev, AS.put, upd, inHeap, Nat.reduceLT, Nat.reduceEqDiff, Nat.reduceAdd, Nat.reduceBEq] <;> exact seee1d90) ?_; simp (maxSteps := 400000) (dsimp := false) only [AL_len, axs, axw, aresL, afill, Value.oneCell', Nat.reduceLT, Nat.reduceLeDiff, Nat.reduceEqDiff, Nat.reduceAdd, Nat.reduceMul, Nat.reduceSub, Nat.reduceBEq, Int.reduceLE, Int.reduceLT, Int.reduceToNat, Int.reduceNeg, Int.reduceEq, axt, ftK, ft3, AAll, ftQ, tys]
      exact ⟨_, rfl, Sees.sc⟩
    | true =>
      obtain ⟨g1, g2⟩ := few_iff.1 hf
      have cf := rFew bs
      rw [hf] at cf
      by_cases he : l.length = bs.length
      · have w1 : IntKind.i64.wrap c = c := wrap_in (by omega) (by omega)
        have w2 : IntKind.i64.wrap ((bs.length : Int) + 1) = (bs.length : Int) + 1 := wrap_in (by omega) (by omega)
        have ht : 0 ≤ c.tmod ((bs.length : Int) + 1) ∧ c.tmod ((bs.length : Int) + 1) < (bs.length : Int) + 1 := by
          rw [Int.tmod_eq_emod_of_nonneg hc.1]
          exact ⟨Int.emod_nonneg _ (by omega), Int.emod_lt_of_pos _ (by omega)⟩
        obtain ⟨k, hk⟩ : ∃ k : Nat, c.tmod ((bs.length : Int) + 1) = k := ⟨(c.tmod ((bs.length : Int) + 1)).toNat, by omega⟩
        have w3 : IntKind.i64.wrap (k : Int) = k := wrap_in (by omega) (by omega)
        have hkl : k ≤ l.length := by omega
        have k0 : (0 : Int) ≤ k := by omega
        have k1 : (k : Int) ≤ bs.length := by omega
        have nz : ¬ (bs.length : Int) + 1 = 0 := by omega
        have cw := cWrong l bs (by omega) (fun a ha => by have := g2 a ha; omega) (by omega)
        have cw2 := cWrong (l.take k) (bs.take k) (by rw [List.length_take]; omega) (fun a ha => by have := g2 a (List.mem_of_mem_take ha); omega) (by rw [List.length_take]; omega)
        rw [wk_take he hkl] at cw2
        have he2 : (l.length : Int) = bs.length := by omega
        refine ACallK.strict rfl (cf) (by simp only [SeesL, AL_len, OL_len, he2, bne_self_eq_false, w1, w2, nz, hk, w3, axs, axt, AS.ev, AS.put, upd, inHeap, Nat.reduceLT, Nat.reduceEqDiff, Nat.reduceAdd, Nat.reduceBEq] <;> exact seee1d90) ?_; simp (maxSteps := 400000) (dsimp := false) only [AL_len, OL_len, he2, bne_self_eq_false, w1, w2, nz, hk, w3, axs, axw, aresL, afill, Value.oneCell', Nat.reduceLT, Nat.reduceLeDiff, Nat.reduceEqDiff, Nat.reduceAdd, Nat.reduceMul, Nat.reduceSub, Nat.reduceBEq, Int.reduceLE, Int.reduceLT, Int.reduceToNat, Int.reduceNeg, Int.reduceEq, axt, ftK, ft3, AAll, ftQ, tys]
        refine ACallK.strict rfl (cw) (by simp only [SeesL, axs, axt, AS.ev, AS.put, upd, inHeap, Nat.reduceLT, Nat.reduceEqDiff, Nat.reduceAdd, Nat.reduceBEq] <;> exact seee1d90) ?_; simp (maxSteps := 400000) (dsimp := false) only [axs, axw, aresL, afill, Value.oneCell', Nat.reduceLT, Nat.reduceLeDiff, Nat.reduceEqDiff, Nat.reduceAdd, Nat.reduceMul, Nat.reduceSub, Nat.reduceBEq, Int.reduceLE, Int.reduceLT, Int.reduceToNat, Int.reduceNeg, Int.reduceEq, axt, ftK, ft3, AAll, ftQ, tys]
        refine ADraw.planR [] [(0, true), (1, true), (2, true), (3, true), (4, true), (5, true), (6, true), (7, true)] [(0, false), (0, false), (0, false), (0, false), (0, false), (0, false), (0, false), (0, false)] mixed (by kernel_rfl) (by kernel_rfl) ?_
        simp (maxSteps := 400000) (dsimp := false) only [he2, k0, k1, OL_len, AL_len, OL_take, AL_take, axs, axw, aresL, afill, Value.oneCell', Nat.reduceLT, Nat.reduceLeDiff, Nat.reduceEqDiff, Nat.reduceAdd, Nat.reduceMul, Nat.reduceSub, Nat.reduceBEq, Int.reduceLE, Int.reduceLT, Int.reduceToNat, Int.reduceNeg, Int.reduceEq, axt, ftK, ft3, AAll, ftQ, tys]
        by_cases z : wkN l bs ≥ 0
        · by_cases y : wkN l bs < k
          · rw [if_pos ⟨z, y⟩] at cw2
            refine ACallP.pure rfl (cw2) ?_; simp (maxSteps := 400000) (dsimp := false) only [z, y, axs, axw, aresL, afill, Value.oneCell', Nat.reduceLT, Nat.reduceLeDiff, Nat.reduceEqDiff, Nat.reduceAdd, Nat.reduceMul, Nat.reduceSub, Nat.reduceBEq, Int.reduceLE, Int.reduceLT, Int.reduceToNat, Int.reduceNeg, Int.reduceEq, axt, ftK, ft3, AAll, ftQ, tys]
            exact ⟨_, rfl, Sees.sc⟩
          · rw [if_neg (fun h => y h.2)] at cw2
            refine ACallP.pure rfl (cw2) ?_; simp (maxSteps := 400000) (dsimp := false) only [z, y, axs, axw, aresL, afill, Value.oneCell', Nat.reduceLT, Nat.reduceLeDiff, Nat.reduceEqDiff, Nat.reduceAdd, Nat.reduceMul, Nat.reduceSub, Nat.reduceBEq, Int.reduceLE, Int.reduceLT, Int.reduceToNat, Int.reduceNeg, Int.reduceEq, axt, ftK, ft3, AAll, ftQ, tys]
            exact ⟨_, rfl, Sees.sc⟩
        · rw [if_neg (fun h => z h.1)] at cw2
          refine ACallP.pure rfl (cw2) ?_; simp (maxSteps := 400000) (dsimp := false) only [z, axs, axw, aresL, afill, Value.oneCell', Nat.reduceLT, Nat.reduceLeDiff, Nat.reduceEqDiff, Nat.reduceAdd, Nat.reduceMul, Nat.reduceSub, Nat.reduceBEq, Int.reduceLE, Int.reduceLT, Int.reduceToNat, Int.reduceNeg, Int.reduceEq, axt, ftK, ft3, AAll, ftQ, tys]
          exact ⟨_, rfl, Sees.sc⟩
      · have he2 : ¬ (l.length : Int) = bs.length := by omega
        refine ACallK.strict rfl (cf) (by simp only [SeesL, AL_len, OL_len, he2, axs, axt, AS.ev, AS.put, upd, inHeap, Nat.reduceLT, Nat.reduceEqDiff, Nat.reduceAdd, Nat.reduceBEq] <;> exact seee1d90) ?_; simp (maxSteps := 400000) (dsimp := false) only [AL_len, OL_len, he2, axs, axw, aresL, afill, Value.oneCell', Nat.reduceLT, Nat.reduceLeDiff, Nat.reduceEqDiff, Nat.reduceAdd, Nat.reduceMul, Nat.reduceSub, Nat.reduceBEq, Int.reduceLE, Int.reduceLT, Int.reduceToNat, Int.reduceNeg, Int.reduceEq, axt, ftK, ft3, AAll, ftQ, tys]
        exact ⟨_, rfl, Sees.sc⟩
end Go.Al
