/- A map that forgets, by the reference: the map behind an operation. Conditions: the rows are short. -/
import Derived.Test.YtkoimgeckkodhaaLo13
set_option linter.unusedVariables false
set_option linter.unusedSimpArgs false
set_option maxRecDepth 20000
set_option maxHeartbeats 6400000
-- NOIDS: noIdsE_PR, noIdsE_OL, noIdsE_AL
-- LENS: PR_len, OL_len, AL_len
namespace Go.Al
open Go.Proofs
/-- A map without some pairs' keys. -/
def cutK (m o : List (Int × Int)) : List (Int × Int) := m.filter fun x => decide (x.1 ∉ keys o)
theorem cutK_nil (m : List (Int × Int)) : cutK m [] = m := by
  unfold cutK
  rw [List.filter_eq_self]
  intro x _
  exact decide_eq_true (fun h => by cases h)
theorem cutK_snoc (m o : List (Int × Int)) (x : Int × Int) : cutK m (o ++ [x]) = noK (cutK m o) x.1 := by
  unfold cutK noK
  rw [List.filter_filter]
  congr 1
  funext y
  have e : (y.1 ∉ keys (o ++ [x])) ↔ (y.1 ≠ x.1 ∧ y.1 ∉ keys o) := by
    unfold keys
    rw [List.map_append, List.mem_append, not_or]
    exact ⟨fun h => ⟨fun e => h.2 (by rw [e]; exact List.mem_singleton.2 rfl), h.1⟩, fun h => ⟨h.2, fun e => h.1 (List.mem_singleton.1 e)⟩⟩
  rw [← Bool.decide_and]
  exact decide_eq_decide.2 e
theorem cutK_rest {m o : List (Int × Int)} (nd : (keys m).Nodup) (ho : ∀ x ∈ o, x ∈ m) : cutK m o = rest m o := by
  unfold cutK rest stay
  refine List.filter_congr fun x hx => ?_
  have e : x.1 ∉ keys o ↔ x ∉ o := by
    refine ⟨fun h h2 => h (mem_keys (v := x.2) h2), fun h h2 => ?_⟩
    obtain ⟨v, hv⟩ := keys_mem h2
    have := nodup_val (k := x.1) (v := x.2) (w := v) nd hx (ho _ hv)
    rw [← this] at hv
    exact h hv
  show (decide (x.1 ∉ keys o)) = !decide (x ∈ o)
  by_cases h : x ∈ o
  · rw [decide_eq_true h, decide_eq_false (fun h2 => e.1 h2 h)]; rfl
  · rw [decide_eq_false h, decide_eq_true (e.2 h)]; rfl
theorem noK_erase {q : List (Int × Int)} (nd : (keys q).Nodup) (k : Int) : noK q k = if idxK q k ≥ 0 then q.eraseIdx (idxK q k).toNat else q := by
  rcases idxT_cases (fun x => decide (x.1 = k)) q with ⟨hk, hq⟩ | ⟨p, x, hk, hx, hxt, hq⟩
  · have hk : idxK q k = -1 := hk
    rw [hk, if_neg (by omega)]
    unfold noK
    rw [List.filter_eq_self]
    intro y hy
    have := hq y hy
    simpa using this
  · have hk : idxK q k = p := hk
    have hx1 : x.1 = k := of_decide_eq_true hxt
    obtain ⟨g1, _, g3, g4, g5⟩ := at_key nd hx
    rw [hx1] at g4 g5
    have hpn : ((p : Int)).toNat = p := by omega
    rw [hk, if_pos (by omega), hpn, g3]
    have all : ∀ r : List (Int × Int), k ∉ keys r → r.filter (fun x => decide (x.1 ≠ k)) = r := fun r hr => by
      rw [List.filter_eq_self]
      intro y hy
      exact decide_eq_true fun e => hr (by rw [← e]; exact List.mem_map.2 ⟨y, hy, rfl⟩)
    unfold noK
    conv => lhs; rw [g1]
    rw [List.filter_append, List.filter_cons, all _ g4, all _ g5]
    simp [hx1]
theorem rBehind (m : List (Int × Int)) (o : LOp) (a : LAns) (nd : (keys m).Nodup) (hm : m.length ≤ 1000) (hl : a.out.length ≤ 1000) (ho : ∀ x ∈ a.out, x ∈ m) : PCalls Try.prog 18 [.lst 2 (PR m), .agg o.cells, .agg a.cells] (.lst 2 (PR (behindM m o a))) := by
  unfold LOp.cells LAns.cells
  refine PCalls.intro2 Try.func18 rfl rfl Try.ntmps18 Try.results18 (by simp) fun n => ?_; simp (maxSteps := 400000) (dsimp := false) only [axs, AThen, ABlock, dstsOk, AStep, callsF, AWant, aop, AS.ev, AS.put, upd, AS.bound, abin, aint, aload, astore, cellsAt, AV.cells, alen, elems, AV.int?, FPost, aresL, ares1, pack, afill, splice, Value.oneCell', Nat.reduceLT, Nat.reduceLeDiff, Nat.reduceEqDiff, Nat.reduceAdd, Nat.reduceMul, Nat.reduceSub, Nat.reduceBEq, Int.reduceLE, Int.reduceLT, Int.reduceToNat, Int.reduceNeg, Int.reduceEq, axt, ftK, ft3, pickP, AScope, AAll, pickQ, ftQ, inHeap, tys]
  refine ALoop.upto a.out.length (fun p s => s.t 0 = .lst 2 (PR (cutK m (a.out.take p))) ∧ s.t 4 = .ptr n 4 0 0 ∧ s.t 5 = .ptr (n + 1) 5 0 0 ∧ s.t 7 = .sc (.int .i64 p) ∧ n + 1 < s.n ∧ s.H n = some (.obj 65 4 [[.sc (.int .i64 o.kind), .sc (.int .u64 o.key), .sc (.int .u64 o.val), .sc (.int .i64 o.n)]] false) ∧ s.H (n + 1) = some (.obj 61 5 [[.sc (.bool a.hit), .sc (.int .u64 a.val), .sc (.int .i64 a.n), .lst 2 (PR a.out), .sc (.int .i64 a.err)]] false)) ⟨by rw [List.take_zero, cutK_nil]; rfl, rfl, rfl, rfl, by show n + 1 < n + 1 + 1; omega, (upd_ne _ _ (by omega)).trans (upd_same _ _ _), upd_same _ _ _⟩ ?_
  rintro p s hp hb ⟨h0, h4, h5, h7, hln, hH0, hH1⟩
  have hcl : (cutK m (a.out.take p)).length ≤ 1000 := Nat.le_trans (List.length_filter_le _ _) hm
  rcases Nat.lt_or_ge p a.out.length with hlt | hge
  · obtain ⟨x, hx, hp0, hpl, hw, hT, hD⟩ := idx hlt (by omega)
    have hg := PR_get hx
    have hs : cutK m (a.out.take (p + 1)) = noK (cutK m (a.out.take p)) x.1 := by rw [hT, cutK_snoc]
    have cw := rWithout (cutK m (a.out.take p)) x.1 hcl
    rw [hs]
    generalize cutK m (a.out.take p) = q at *
    simp (maxSteps := 400000) (dsimp := false) only [h0, h4, h5, h7, hp0, hpl, hg, PR_len, hH0, hH1, axs, AThen, ABlock, dstsOk, AStep, callsF, AWant, aop, AS.ev, AS.put, upd, AS.bound, abin, aint, aload, astore, cellsAt, AV.cells, alen, elems, AV.int?, FPost, aresL, ares1, pack, afill, splice, Value.oneCell', Nat.reduceLT, Nat.reduceLeDiff, Nat.reduceEqDiff, Nat.reduceAdd, Nat.reduceMul, Nat.reduceSub, Nat.reduceBEq, Int.reduceLE, Int.reduceLT, Int.reduceToNat, Int.reduceNeg, Int.reduceEq, axt, ftK, ft3, pickP, AScope, AAll, pickQ, ftQ, inHeap, tys]
    refine ACallK.strict rfl (cw) (by simp only [SeesL, h0, h4, h5, h7, hp0, hpl, hg, PR_len, hH0, hH1, hw, axs, axt, AS.ev, AS.put, upd, inHeap, Nat.reduceLT, Nat.reduceEqDiff, Nat.reduceAdd, Nat.reduceBEq]; repeat' (first | exact True.intro | exact Sees.sc | exact Sees.none | ((with_reducible refine Sees.same ?_) <;> simp [noIds, noIdsL, noIdsE, noIdsE_U, noIdsE_UU, noIdsE_PR, noIdsE_OL, noIdsE_AL] <;> fail) | (refine Live.sees ?_ ?_ <;> first | assumption | (simp [noIdsE_U, noIdsE_UU, noIdsE_PR, noIdsE_OL, noIdsE_AL] <;> fail)) | (refine Sees.obj ?_ ?_ ?_ <;> first | exact ⟨_, _, by assumption, rfl⟩ | (simp [U_len, UU_len, PR_len, OL_len, AL_len] <;> fail) | (simp [noIdsE_U, noIdsE_UU, noIdsE_PR, noIdsE_OL, noIdsE_AL] <;> fail) | (simp [U, UU, upd] <;> fail) | (simp [U, UU, upd, neS, *] <;> fail)) | (refine Sees.of_seen 3 ?_ <;> simp [seen, upd, noIdsE, noIdsL, noIds, U, UU, Nat.add_assoc] <;> fail) | refine Sees.agg ?_ | refine And.intro ?_ ?_ | simp only [SeesL])) ?_; simp (maxSteps := 400000) (dsimp := false) only [h0, h4, h5, h7, hp0, hpl, hg, PR_len, hH0, hH1, hw, axs, AThen, ABlock, dstsOk, AStep, callsF, AWant, aop, AS.ev, AS.put, upd, AS.bound, abin, aint, aload, astore, cellsAt, AV.cells, alen, elems, AV.int?, FPost, aresL, ares1, pack, afill, splice, Value.oneCell', Nat.reduceLT, Nat.reduceLeDiff, Nat.reduceEqDiff, Nat.reduceAdd, Nat.reduceMul, Nat.reduceSub, Nat.reduceBEq, Int.reduceLE, Int.reduceLT, Int.reduceToNat, Int.reduceNeg, Int.reduceEq, axt, ftK, ft3, pickP, AScope, AAll, pickQ, ftQ, inHeap, tys]
    exact ⟨hlt, hln⟩
  · have hpl : ¬ (p : Int) < a.out.length := by omega
    rw [List.take_of_length_le hge] at h0 hcl
    have ndq := rest_nodup (out := a.out) nd
    rw [cutK_rest nd ho] at h0 hcl
    unfold behindM
    generalize rest m a.out = q at *
    by_cases k3 : o.kind = 3
    · have k2 : ¬ o.kind = 2 := by omega
      have e : (if o.kind = 3 ∧ idxK q o.key ≥ 0 then q.eraseIdx (idxK q o.key).toNat else q) = noK q o.key := by
        rw [noK_erase ndq]
        by_cases h : idxK q o.key ≥ 0
        · rw [if_pos ⟨k3, h⟩, if_pos h]
        · rw [if_neg (fun h2 => h h2.2), if_neg h]
      rw [if_neg k2, e]
      have cw := rWithout q o.key hcl
      simp (maxSteps := 400000) (dsimp := false) only [h0, h4, h5, h7, hpl, PR_len, hH0, hH1, k3, axs, AThen, ABlock, dstsOk, AStep, callsF, AWant, aop, AS.ev, AS.put, upd, AS.bound, abin, aint, aload, astore, cellsAt, AV.cells, alen, elems, AV.int?, FPost, aresL, ares1, pack, afill, splice, Value.oneCell', Nat.reduceLT, Nat.reduceLeDiff, Nat.reduceEqDiff, Nat.reduceAdd, Nat.reduceMul, Nat.reduceSub, Nat.reduceBEq, Int.reduceLE, Int.reduceLT, Int.reduceToNat, Int.reduceNeg, Int.reduceEq, axt, ftK, ft3, pickP, AScope, AAll, pickQ, ftQ, inHeap, tys]
      refine ACallK.strict rfl (cw) (by simp only [SeesL, h0, h4, h5, h7, hH0, hH1, axs, axt, AS.ev, AS.put, upd, inHeap, Nat.reduceLT, Nat.reduceEqDiff, Nat.reduceAdd, Nat.reduceBEq]; repeat' (first | exact True.intro | exact Sees.sc | exact Sees.none | ((with_reducible refine Sees.same ?_) <;> simp [noIds, noIdsL, noIdsE, noIdsE_U, noIdsE_UU, noIdsE_PR, noIdsE_OL, noIdsE_AL] <;> fail) | (refine Live.sees ?_ ?_ <;> first | assumption | (simp [noIdsE_U, noIdsE_UU, noIdsE_PR, noIdsE_OL, noIdsE_AL] <;> fail)) | (refine Sees.obj ?_ ?_ ?_ <;> first | exact ⟨_, _, by assumption, rfl⟩ | (simp [U_len, UU_len, PR_len, OL_len, AL_len] <;> fail) | (simp [noIdsE_U, noIdsE_UU, noIdsE_PR, noIdsE_OL, noIdsE_AL] <;> fail) | (simp [U, UU, upd] <;> fail) | (simp [U, UU, upd, neS, *] <;> fail)) | (refine Sees.of_seen 3 ?_ <;> simp [seen, upd, noIdsE, noIdsL, noIds, U, UU, Nat.add_assoc] <;> fail) | refine Sees.agg ?_ | refine And.intro ?_ ?_ | simp only [SeesL])) ?_; simp (maxSteps := 400000) (dsimp := false) only [h0, h4, h5, h7, hH0, hH1, axs, AThen, ABlock, dstsOk, AStep, callsF, AWant, aop, AS.ev, AS.put, upd, AS.bound, abin, aint, aload, astore, cellsAt, AV.cells, alen, elems, AV.int?, FPost, aresL, ares1, pack, afill, splice, Value.oneCell', Nat.reduceLT, Nat.reduceLeDiff, Nat.reduceEqDiff, Nat.reduceAdd, Nat.reduceMul, Nat.reduceSub, Nat.reduceBEq, Int.reduceLE, Int.reduceLT, Int.reduceToNat, Int.reduceNeg, Int.reduceEq, axt, ftK, ft3, pickP, AScope, AAll, pickQ, ftQ, inHeap, tys]
      exact ⟨_, rfl, Sees.same (by simp [noIds, noIdsE_PR])⟩
    · by_cases k2 : o.kind = 2
      · rw [if_pos k2]
        have cp := rPlace q o.key (by omega)
        have n1 : q.length * 16 ≤ 140737488355328 := by omega
        have n2 : q.length ≤ 1099511627776 := by omega
        have hne : (¬ n = s.n ∧ ¬ n + 1 = s.n ∧ ¬ s.n = n ∧ ¬ s.n = n + 1) ∧ (¬ n = s.n + 1 ∧ ¬ n + 1 = s.n + 1 ∧ ¬ s.n + 1 = n ∧ ¬ s.n + 1 = n + 1) := by and_intros <;> omega
        rcases idxT_cases (fun x => decide (x.1 = o.key)) q with ⟨hk, hq⟩ | ⟨p', x, hk, hx, hxt, hq⟩
        · have hk : idxK q o.key = -1 := hk
          have am : ¬ ((-1 : Int) ≥ 0) := by omega
          rw [hk] at cp
          rw [hk, if_neg am]
          have b1 : (q.length + 1) * 16 ≤ 140737488355328 := by omega
          have b2 : q.length + 1 ≤ 1099511627776 := by omega
          simp (maxSteps := 400000) (dsimp := false) only [h0, h4, h5, h7, hpl, PR_len, hH0, hH1, k2, axs, AThen, ABlock, dstsOk, AStep, callsF, AWant, aop, AS.ev, AS.put, upd, AS.bound, abin, aint, aload, astore, cellsAt, AV.cells, alen, elems, AV.int?, FPost, aresL, ares1, pack, afill, splice, Value.oneCell', Nat.reduceLT, Nat.reduceLeDiff, Nat.reduceEqDiff, Nat.reduceAdd, Nat.reduceMul, Nat.reduceSub, Nat.reduceBEq, Int.reduceLE, Int.reduceLT, Int.reduceToNat, Int.reduceNeg, Int.reduceEq, axt, ftK, ft3, pickP, AScope, AAll, pickQ, ftQ, inHeap, tys]
          refine ACallK.strict rfl (cp) (by simp only [SeesL, h0, h4, h5, h7, PR_len, hH0, hH1, k2, am, n1, n2, hne, b1, b2, axs, axt, AS.ev, AS.put, upd, inHeap, Nat.reduceLT, Nat.reduceEqDiff, Nat.reduceAdd, Nat.reduceBEq]; repeat' (first | exact True.intro | exact Sees.sc | exact Sees.none | ((with_reducible refine Sees.same ?_) <;> simp [noIds, noIdsL, noIdsE, noIdsE_U, noIdsE_UU, noIdsE_PR, noIdsE_OL, noIdsE_AL] <;> fail) | (refine Live.sees ?_ ?_ <;> first | assumption | (simp [noIdsE_U, noIdsE_UU, noIdsE_PR, noIdsE_OL, noIdsE_AL] <;> fail)) | (refine Sees.obj ?_ ?_ ?_ <;> first | exact ⟨_, _, by assumption, rfl⟩ | (simp [U_len, UU_len, PR_len, OL_len, AL_len] <;> fail) | (simp [noIdsE_U, noIdsE_UU, noIdsE_PR, noIdsE_OL, noIdsE_AL] <;> fail) | (simp [U, UU, upd] <;> fail) | (simp [U, UU, upd, neS, *] <;> fail)) | (refine Sees.of_seen 3 ?_ <;> simp [seen, upd, noIdsE, noIdsL, noIds, U, UU, Nat.add_assoc] <;> fail) | refine Sees.agg ?_ | refine And.intro ?_ ?_ | simp only [SeesL])) ?_; simp (maxSteps := 400000) (dsimp := false) only [h0, h4, h5, h7, PR_len, hH0, hH1, k2, am, n1, n2, hne, b1, b2, axs, AThen, ABlock, dstsOk, AStep, callsF, AWant, aop, AS.ev, AS.put, upd, AS.bound, abin, aint, aload, astore, cellsAt, AV.cells, alen, elems, AV.int?, FPost, aresL, ares1, pack, afill, splice, Value.oneCell', Nat.reduceLT, Nat.reduceLeDiff, Nat.reduceEqDiff, Nat.reduceAdd, Nat.reduceMul, Nat.reduceSub, Nat.reduceBEq, Int.reduceLE, Int.reduceLT, Int.reduceToNat, Int.reduceNeg, Int.reduceEq, axt, ftK, ft3, pickP, AScope, AAll, pickQ, ftQ, inHeap, tys]
          rw [PR_append]
          exact ⟨_, rfl, (Live.mk (upd_same _ _ _) (by simp [PR_len]) : Live 56 2 _ (PR q ++ PR [(o.key, o.val)]) _).sees (by rw [← PR_append]; exact noIdsE_PR _)⟩
        · have hk : idxK q o.key = p' := hk
          have hge2 : (p' : Int) ≥ 0 := by omega
          have hp0 : (0 : Int) ≤ (p' : Int) := by omega
          have hpl2 : (p' : Int) < q.length := by have := (List.getElem?_eq_some_iff.1 hx).1; omega
          have hpn : ((p' : Int)).toNat = p' := by omega
          have hg := PR_get hx
          rw [hk] at cp
          rw [hk, if_pos hge2, hpn]
          simp (maxSteps := 400000) (dsimp := false) only [h0, h4, h5, h7, hpl, PR_len, hH0, hH1, k2, axs, AThen, ABlock, dstsOk, AStep, callsF, AWant, aop, AS.ev, AS.put, upd, AS.bound, abin, aint, aload, astore, cellsAt, AV.cells, alen, elems, AV.int?, FPost, aresL, ares1, pack, afill, splice, Value.oneCell', Nat.reduceLT, Nat.reduceLeDiff, Nat.reduceEqDiff, Nat.reduceAdd, Nat.reduceMul, Nat.reduceSub, Nat.reduceBEq, Int.reduceLE, Int.reduceLT, Int.reduceToNat, Int.reduceNeg, Int.reduceEq, axt, ftK, ft3, pickP, AScope, AAll, pickQ, ftQ, inHeap, tys]
          refine ACallK.strict rfl (cp) (by simp only [SeesL, h0, h4, h5, h7, PR_len, hH0, hH1, k2, hge2, n1, n2, hne, hp0, hpl2, hg, axs, axt, AS.ev, AS.put, upd, inHeap, Nat.reduceLT, Nat.reduceEqDiff, Nat.reduceAdd, Nat.reduceBEq]; repeat' (first | exact True.intro | exact Sees.sc | exact Sees.none | ((with_reducible refine Sees.same ?_) <;> simp [noIds, noIdsL, noIdsE, noIdsE_U, noIdsE_UU, noIdsE_PR, noIdsE_OL, noIdsE_AL] <;> fail) | (refine Live.sees ?_ ?_ <;> first | assumption | (simp [noIdsE_U, noIdsE_UU, noIdsE_PR, noIdsE_OL, noIdsE_AL] <;> fail)) | (refine Sees.obj ?_ ?_ ?_ <;> first | exact ⟨_, _, by assumption, rfl⟩ | (simp [U_len, UU_len, PR_len, OL_len, AL_len] <;> fail) | (simp [noIdsE_U, noIdsE_UU, noIdsE_PR, noIdsE_OL, noIdsE_AL] <;> fail) | (simp [U, UU, upd] <;> fail) | (simp [U, UU, upd, neS, *] <;> fail)) | (refine Sees.of_seen 3 ?_ <;> simp [seen, upd, noIdsE, noIdsL, noIds, U, UU, Nat.add_assoc] <;> fail) | refine Sees.agg ?_ | refine And.intro ?_ ?_ | simp only [SeesL])) ?_; simp (maxSteps := 400000) (dsimp := false) only [h0, h4, h5, h7, PR_len, hH0, hH1, k2, hge2, n1, n2, hne, hp0, hpl2, hg, axs, AThen, ABlock, dstsOk, AStep, callsF, AWant, aop, AS.ev, AS.put, upd, AS.bound, abin, aint, aload, astore, cellsAt, AV.cells, alen, elems, AV.int?, FPost, aresL, ares1, pack, afill, splice, Value.oneCell', Nat.reduceLT, Nat.reduceLeDiff, Nat.reduceEqDiff, Nat.reduceAdd, Nat.reduceMul, Nat.reduceSub, Nat.reduceBEq, Int.reduceLE, Int.reduceLT, Int.reduceToNat, Int.reduceNeg, Int.reduceEq, axt, ftK, ft3, pickP, AScope, AAll, pickQ, ftQ, inHeap, tys]
          rw [of_decide_eq_true hxt, PR_set]
          exact ⟨_, rfl, (Live.mk (upd_same _ _ _) (by simp [PR_len]) : Live 56 2 _ (PR (q.set p' (o.key, o.val))) _).sees (noIdsE_PR _)⟩
      · rw [if_neg k2, if_neg (fun h => k3 h.1)]
        simp (maxSteps := 400000) (dsimp := false) only [h0, h4, h5, h7, hpl, PR_len, hH0, hH1, k2, k3, axs, AThen, ABlock, dstsOk, AStep, callsF, AWant, aop, AS.ev, AS.put, upd, AS.bound, abin, aint, aload, astore, cellsAt, AV.cells, alen, elems, AV.int?, FPost, aresL, ares1, pack, afill, splice, Value.oneCell', Nat.reduceLT, Nat.reduceLeDiff, Nat.reduceEqDiff, Nat.reduceAdd, Nat.reduceMul, Nat.reduceSub, Nat.reduceBEq, Int.reduceLE, Int.reduceLT, Int.reduceToNat, Int.reduceNeg, Int.reduceEq, axt, ftK, ft3, pickP, AScope, AAll, pickQ, ftQ, inHeap, tys]
        exact ⟨_, rfl, Sees.same (by simp [noIds, noIdsE_PR])⟩
end Go.Al
