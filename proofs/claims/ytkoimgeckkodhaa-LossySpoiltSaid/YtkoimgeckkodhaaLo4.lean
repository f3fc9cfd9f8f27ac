/- A map that forgets: may pairs be evicted? Conditions: the rows are short. -/
import Derived.Test.YtkoimgeckkodhaaLo3
set_option linter.unusedVariables false
set_option linter.unusedSimpArgs false
set_option maxRecDepth 20000
set_option maxHeartbeats 3200000
-- NOIDS: noIdsE_PR
-- LENS: PR_len
namespace Go.Al
open Go.Proofs
abbrev keys (l : List (Int × Int)) : List Int := l.map Prod.fst
def outB (m l : List (Int × Int)) : Bool := decide ((∀ x ∈ l, x ∈ m) ∧ (keys l).Nodup)
theorem take_mem {l : List (Int × Int)} {p : Nat} {x : Int × Int} (hx : l[p]? = some x) : ∃ b, l = l.take p ++ x :: b := by
  obtain ⟨hp, e⟩ := List.getElem?_eq_some_iff.1 hx
  refine ⟨l.drop (p + 1), ?_⟩
  rw [← e, List.getElem_cons_drop, List.take_append_drop]
theorem see33c00 {p : Prop} (h : p := by repeat' (first | exact True.intro | exact Sees.sc | exact Sees.none | ((with_reducible refine Sees.same ?_) <;> simp [noIds, noIdsL, noIdsE, noIdsE_U, noIdsE_UU, noIdsE_PR] <;> fail) | (refine Live.sees ?_ ?_ <;> first | assumption | (simp [noIdsE_U, noIdsE_UU, noIdsE_PR] <;> fail)) | (refine Sees.obj ?_ ?_ ?_ <;> first | exact ⟨_, _, by assumption, rfl⟩ | (simp [U_len, UU_len, PR_len] <;> fail) | (simp [noIdsE_U, noIdsE_UU, noIdsE_PR] <;> fail) | (simp [U, UU, upd] <;> fail) | (simp [U, UU, upd, neS, *] <;> fail)) | (refine Sees.of_seen 3 ?_ <;> simp [seen, upd, noIdsE, noIdsL, noIds, U, UU, Nat.add_assoc] <;> fail) | refine Sees.agg ?_ | refine And.intro ?_ ?_ | simp only [SeesL])) : p := h
theorem cOut (m l : List (Int × Int)) (hm : m.length ≤ 1000000) (hl : l.length ≤ 1000000) : PCalls Try.prog 42 [.lst 2 (PR m), .lst 2 (PR l)] (.sc (.bool (outB m l))) := by
  refine PCalls.intro2 Try.func42 rfl rfl Try.ntmps42 Try.results42 (by simp) fun n => ?_; simp (maxSteps := 400000) (dsimp := false) only [axs, axw, aresL, afill, Value.oneCell', Nat.reduceLT, Nat.reduceLeDiff, Nat.reduceEqDiff, Nat.reduceAdd, Nat.reduceMul, Nat.reduceSub, Nat.reduceBEq, Int.reduceLE, Int.reduceLT, Int.reduceToNat, Int.reduceNeg, Int.reduceEq, axt, ftK, ft3, AAll, ftQ, tys]
  refine AStepX.makeMap rfl map115 (by rintro x ⟨⟩) ?_
  simp (maxSteps := 400000) (dsimp := false) only [PR_len, axs, axw, aresL, afill, Value.oneCell', Nat.reduceLT, Nat.reduceLeDiff, Nat.reduceEqDiff, Nat.reduceAdd, Nat.reduceMul, Nat.reduceSub, Nat.reduceBEq, Int.reduceLE, Int.reduceLT, Int.reduceToNat, Int.reduceNeg, Int.reduceEq, axt, ftK, ft3, AAll, ftQ, tys]
  refine ALoop.upto l.length (fun p s => s.t 0 = .lst 2 (PR m) ∧ s.t 9 = .lst 2 (PR l) ∧ s.t 10 = .sc (.int .i64 l.length) ∧ s.t 11 = .sc (.int .i64 p) ∧ (∀ x ∈ l.take p, x ∈ m) ∧ (keys (l.take p)).Nodup ∧ ∃ id, s.t 5 = .mp id ∧ id < s.n ∧ s.H id = some (.map (setM .u64 (keys (l.take p))))) ⟨rfl, rfl, rfl, rfl, fun x hx => (nomatch hx), List.nodup_nil, _, rfl, Nat.lt_succ_self _, upd_same _ _ _⟩ ?_
  rintro p s hp hb ⟨h0, h9, h10, h11, hin, hnd, id, h5, hidn, hid⟩
  rcases Nat.lt_or_ge p l.length with hlt | hge
  · obtain ⟨x, hx, hp0, hpl, hw, hT, hD⟩ := idx hlt (by omega)
    have hg := PR_get hx
    obtain ⟨b, hb2⟩ := take_mem hx
    have hk1 : keys (l.take (p + 1)) = keys (l.take p) ++ [x.1] := by rw [hT]; simp [keys]
    have hne : ¬ id = s.n ∧ ¬ s.n = id := by and_intros <;> omega
    have hid2 : ∀ z1 z2 : Option AO, upd (upd s.H s.n z1) s.n z2 id = some (.map (setM .u64 (keys (l.take p)))) := fun z1 z2 => (upd_ne _ _ hne.1).trans ((upd_ne _ _ hne.1).trans hid)
    simp (maxSteps := 400000) (dsimp := false) only [h0, h9, h10, h11, hp0, hpl, hg, h5, axs, axw, aresL, afill, Value.oneCell', Nat.reduceLT, Nat.reduceLeDiff, Nat.reduceEqDiff, Nat.reduceAdd, Nat.reduceMul, Nat.reduceSub, Nat.reduceBEq, Int.reduceLE, Int.reduceLT, Int.reduceToNat, Int.reduceNeg, Int.reduceEq, axt, ftK, ft3, AAll, ftQ, tys]
    refine AStepX.lookup (ks := keys (l.take p)) rfl map115 in54 ty4 (by kernel_rfl) (by rintro i ⟨⟩; rfl) rfl rfl (hid2 _ _) ?_
    by_cases hmem : x.1 ∈ keys (l.take p)
    · have hf : outB m l = false := by
        refine decide_eq_false fun h => ?_
        have h2 := h.2
        rw [hb2] at h2
        unfold keys at h2 hmem
        rw [List.map_append, List.map_cons] at h2
        exact (List.nodup_append.1 h2).2.2 _ hmem _ List.mem_cons_self rfl
      simp (maxSteps := 400000) (dsimp := false) only [h0, h9, h10, h11, hp0, hpl, hg, h5, hmem, hf, axs, axw, aresL, afill, Value.oneCell', Nat.reduceLT, Nat.reduceLeDiff, Nat.reduceEqDiff, Nat.reduceAdd, Nat.reduceMul, Nat.reduceSub, Nat.reduceBEq, Int.reduceLE, Int.reduceLT, Int.reduceToNat, Int.reduceNeg, Int.reduceEq, axt, ftK, ft3, AAll, ftQ, tys]
      exact ⟨_, rfl, Sees.sc⟩
    · by_cases hxm : x ∈ m
      · simp (maxSteps := 400000) (dsimp := false) only [h0, h9, h10, h11, hp0, hpl, hg, h5, hmem, axs, axw, aresL, afill, Value.oneCell', Nat.reduceLT, Nat.reduceLeDiff, Nat.reduceEqDiff, Nat.reduceAdd, Nat.reduceMul, Nat.reduceSub, Nat.reduceBEq, Int.reduceLE, Int.reduceLT, Int.reduceToNat, Int.reduceNeg, Int.reduceEq, axt, ftK, ft3, AAll, ftQ, tys]
        refine ACallK.strict rfl (cContainsP m x hm) (by simp only [SeesL, h0, h9, h10, h11, hp0, hpl, hg, h5, hmem, decide_eq_true hxm, axs, axt, AS.ev, AS.put, upd, inHeap, Nat.reduceLT, Nat.reduceEqDiff, Nat.reduceAdd, Nat.reduceBEq]; exact see33c00) ?_; simp (maxSteps := 400000) (dsimp := false) only [h0, h9, h10, h11, hp0, hpl, hg, h5, hmem, decide_eq_true hxm, axs, axw, aresL, afill, Value.oneCell', Nat.reduceLT, Nat.reduceLeDiff, Nat.reduceEqDiff, Nat.reduceAdd, Nat.reduceMul, Nat.reduceSub, Nat.reduceBEq, Int.reduceLE, Int.reduceLT, Int.reduceToNat, Int.reduceNeg, Int.reduceEq, axt, ftK, ft3, AAll, ftQ, tys]
        refine AStepX.mapUpdate (ks := keys (l.take p)) rfl map115 in54 rfl rfl rfl (hid2 _ _) ?_
        simp (maxSteps := 400000) (dsimp := false) only [h0, h9, h10, h11, hw, axs, axw, aresL, afill, Value.oneCell', Nat.reduceLT, Nat.reduceLeDiff, Nat.reduceEqDiff, Nat.reduceAdd, Nat.reduceMul, Nat.reduceSub, Nat.reduceBEq, Int.reduceLE, Int.reduceLT, Int.reduceToNat, Int.reduceNeg, Int.reduceEq, axt, ftK, ft3, AAll, ftQ, tys]
        rw [hk1, if_neg hmem]
        refine ⟨hlt, ?_, ?_, id, h5, Nat.lt_succ_of_lt hidn, if_pos rfl⟩
        · intro y hy
          rw [hT] at hy
          rcases List.mem_append.1 hy with h | h
          · exact hin y h
          · rw [List.mem_singleton.1 h]; exact hxm
        · exact List.nodup_append.2 ⟨hnd, by simp, fun a ha b hb3 e => hmem (by rw [← List.mem_singleton.1 hb3, ← e]; exact ha)⟩
      · have hf : outB m l = false := by
          refine decide_eq_false fun h => hxm (h.1 x ?_)
          exact List.mem_of_getElem? hx
        simp (maxSteps := 400000) (dsimp := false) only [h0, h9, h10, h11, hp0, hpl, hg, h5, hmem, axs, axw, aresL, afill, Value.oneCell', Nat.reduceLT, Nat.reduceLeDiff, Nat.reduceEqDiff, Nat.reduceAdd, Nat.reduceMul, Nat.reduceSub, Nat.reduceBEq, Int.reduceLE, Int.reduceLT, Int.reduceToNat, Int.reduceNeg, Int.reduceEq, axt, ftK, ft3, AAll, ftQ, tys]
        refine ACallK.strict rfl (cContainsP m x hm) (by simp only [SeesL, h0, h9, h10, h11, hp0, hpl, hg, h5, hmem, decide_eq_false hxm, hf, axs, axt, AS.ev, AS.put, upd, inHeap, Nat.reduceLT, Nat.reduceEqDiff, Nat.reduceAdd, Nat.reduceBEq]; exact see33c00) ?_; simp (maxSteps := 400000) (dsimp := false) only [h0, h9, h10, h11, hp0, hpl, hg, h5, hmem, decide_eq_false hxm, hf, axs, axw, aresL, afill, Value.oneCell', Nat.reduceLT, Nat.reduceLeDiff, Nat.reduceEqDiff, Nat.reduceAdd, Nat.reduceMul, Nat.reduceSub, Nat.reduceBEq, Int.reduceLE, Int.reduceLT, Int.reduceToNat, Int.reduceNeg, Int.reduceEq, axt, ftK, ft3, AAll, ftQ, tys]
        exact ⟨_, rfl, Sees.sc⟩
  · have hpl : ¬ (p : Int) < l.length := by omega
    rw [List.take_of_length_le hge] at hin hnd
    have hf : outB m l = true := decide_eq_true ⟨hin, hnd⟩
    simp (maxSteps := 400000) (dsimp := false) only [h0, h9, h10, h11, hpl, hf, axs, axw, aresL, afill, Value.oneCell', Nat.reduceLT, Nat.reduceLeDiff, Nat.reduceEqDiff, Nat.reduceAdd, Nat.reduceMul, Nat.reduceSub, Nat.reduceBEq, Int.reduceLE, Int.reduceLT, Int.reduceToNat, Int.reduceNeg, Int.reduceEq, axt, ftK, ft3, AAll, ftQ, tys]
    exact ⟨_, rfl, Sees.sc⟩
end Go.Al
