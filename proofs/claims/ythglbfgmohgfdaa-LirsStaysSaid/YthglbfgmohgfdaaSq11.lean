/- Whether no key is twice: the reference's, and the program's. Conditions: the rows are short. -/
import Derived.Test.YthglbfgmohgfdaaSq10
set_option linter.unusedVariables false
set_option linter.unusedSimpArgs false
namespace Go.Al
open Go.Proofs
def apart : List Int → Bool
  | [] => true
  | x :: l => !decide (x ∈ l) && apart l
theorem apart_iff : ∀ {l : List Int}, apart l = true ↔ l.Nodup
  | [] => by simp [apart]
  | x :: l => by simp [apart, apart_iff (l := l)]
theorem apart_snoc (l : List Int) (x : Int) (h : apart l = true) (hx : x ∉ l) : apart (l ++ [x]) = true := by
  rw [apart_iff] at h ⊢
  rw [List.nodup_append]
  refine ⟨h, by simp, ?_⟩
  intro a ha b hb
  simp only [List.mem_singleton] at hb
  subst hb
  rintro rfl
  exact hx ha
theorem apart_twice (l r : List Int) (x : Int) (hx : x ∈ l) : apart (l ++ x :: r) = false := by
  rw [Bool.eq_false_iff]
  intro h
  rw [apart_iff, List.nodup_append] at h
  exact h.2.2 x hx x (by simp) rfl
theorem without_count {l : List Int} {k : Int} (h : apart l = true) : (without l k).length = if k ∈ l then l.length - 1 else l.length := by
  rw [apart_iff] at h
  induction l with
  | nil => simp [without]
  | cons x l ih =>
    rw [List.nodup_cons] at h
    have ih := ih h.2
    by_cases e : x = k
    · subst e
      have : (without (x :: l) x).length = (without l x).length := by simp [without]
      rw [this, ih, if_neg h.1]
      simp
    · have : (without (x :: l) k).length = (without l k).length + 1 := by simp [without, e]
      rw [this, ih]
      by_cases h2 : k ∈ l
      · have : 0 < l.length := List.length_pos_iff.2 (List.ne_nil_of_mem h2)
        simp [h2]; omega
      · have : ¬ k = x := fun h => e h.symm
        simp [h2, this]
theorem flat_step {ls : List (List Int)} {i : Nat} {x : List Int} (h : ls[i]? = some x) : ls.flatten = (ls.take i).flatten ++ (x ++ (ls.drop (i + 1)).flatten) := by
  obtain ⟨h1, h2⟩ := List.getElem?_eq_some_iff.1 h
  have : ls = ls.take i ++ x :: ls.drop (i + 1) := by
    rw [← h2, ← List.drop_eq_getElem_cons h1, List.take_append_drop]
  conv => lhs; rw [this]
  simp
theorem rApart (ls : List (List Int)) (hl : ls.length ≤ 1000000) (hf : ls.flatten.length ≤ 1000000) : PCalls Try.prog 25 [.lst 1 (UU ls)] (.sc (.bool (apart ls.flatten))) := by
  refine PCalls.intro2 Try.func25 rfl rfl Try.ntmps25 Try.results25 (by simp) fun n => ?_; simp (maxSteps := 400000) (dsimp := false) only [axs, AThen, ABlock, dstsOk, AStep, callsF, AWant, aop, AS.ev, AS.put, upd, AS.bound, abin, aint, aload, astore, cellsAt, AV.cells, alen, elems, AV.int?, FPost, aresL, ares1, pack, afill, splice, Value.oneCell', Nat.reduceLT, Nat.reduceLeDiff, Nat.reduceEqDiff, Nat.reduceAdd, Nat.reduceMul, Nat.reduceSub, Nat.reduceBEq, Int.reduceLE, Int.reduceLT, Int.reduceToNat, Int.reduceNeg, Int.reduceEq, axt, ftK, ft3, pickP, AScope, AAll, pickQ, ftQ, inHeap, tys]
  refine ALoop.upto ls.length (fun p s => s.t 0 = .lst 1 (UU ls) ∧ s.t 4 = .sc (.int .i64 p) ∧ Live 35 1 s.H (U (ls.take p).flatten) (s.t 3) ∧ apart (ls.take p).flatten = true) ⟨rfl, rfl, Live.nil, rfl⟩ ?_
  rintro p s hp hb ⟨h0, h4, hv, ha⟩
  rcases Nat.lt_or_ge p ls.length with hlt | hge
  · obtain ⟨x, hx, hp0, hpl, hw, hT, hD⟩ := idx hlt (by omega)
    have hg := UU_get hx
    have hfs := flat_step hx
    have hxl : x.length ≤ 1000000 := by rw [hfs] at hf; simp only [List.length_append] at hf; omega
    have hpre : (ls.take p).flatten.length + x.length ≤ 1000000 := by rw [hfs] at hf; simp only [List.length_append] at hf; omega
    simp (maxSteps := 400000) (dsimp := false) only [h0, h4, hpl, UU_len, axs, AThen, ABlock, dstsOk, AStep, callsF, AWant, aop, AS.ev, AS.put, upd, AS.bound, abin, aint, aload, astore, cellsAt, AV.cells, alen, elems, AV.int?, FPost, aresL, ares1, pack, afill, splice, Value.oneCell', Nat.reduceLT, Nat.reduceLeDiff, Nat.reduceEqDiff, Nat.reduceAdd, Nat.reduceMul, Nat.reduceSub, Nat.reduceBEq, Int.reduceLE, Int.reduceLT, Int.reduceToNat, Int.reduceNeg, Int.reduceEq, axt, ftK, ft3, pickP, AScope, AAll, pickQ, ftQ, inHeap, tys]
    refine ALoop.upto x.length (fun q s => s.t 0 = .lst 1 (UU ls) ∧ s.t 4 = .sc (.int .i64 p) ∧ s.t 5 = .sc (.int .i64 q) ∧ Live 35 1 s.H (U ((ls.take p).flatten ++ x.take q)) (s.t 3) ∧ apart ((ls.take p).flatten ++ x.take q) = true) ⟨h0, h4, rfl, by rw [List.take_zero, List.append_nil]; exact hv, by rw [List.take_zero, List.append_nil]; exact ha⟩ ?_
    rintro q s hq hb ⟨h0, h4, h5, hv, ha⟩
    rcases Nat.lt_or_ge q x.length with hlt2 | hge2
    · obtain ⟨y, hy, hq0, hql, hw2, hT2, hD2⟩ := idx hlt2 (by omega)
      have hg2 := U_get hy
      have hlen : ((ls.take p).flatten ++ x.take q).length ≤ 1000000 := by rw [List.length_append, List.length_take]; omega
      have hs : U ((ls.take p).flatten ++ x.take (q + 1)) = U ((ls.take p).flatten ++ x.take q) ++ [[.sc (.int .u64 y)]] := by rw [hT2, ← List.append_assoc, U_snoc]
      have hfin : ls.flatten = ((ls.take p).flatten ++ x.take q) ++ y :: (x.drop (q + 1) ++ (ls.drop (p + 1)).flatten) := by
        rw [hfs]
        have : x = x.take q ++ y :: x.drop (q + 1) := by rw [← hD2, List.take_append_drop]
        conv => lhs; rw [this]
        simp
      have ha' : y ∉ (ls.take p).flatten ++ x.take q → apart ((ls.take p).flatten ++ x.take (q + 1)) = true := fun h => by rw [hT2, ← List.append_assoc]; exact apart_snoc _ _ ha h
      rw [hs]
      generalize (ls.take p).flatten ++ x.take q = pre at *
      have hv' := hv
      have b1 : (pre.length + 1) * 8 ≤ 140737488355328 := by omega
      have b2 : pre.length + 1 ≤ 1099511627776 := by omega
      rcases hv.cases hb with ⟨h7, h8⟩ | ⟨id, hlt3, hne, h7, h8⟩
      · have : pre = [] := by simpa [U] using h7
        subst this
        simp (maxSteps := 400000) (dsimp := false) only [h0, h4, h5, h8, hg, hg2, hp0, hq0, hql, U_len, axs, AThen, ABlock, dstsOk, AStep, callsF, AWant, aop, AS.ev, AS.put, upd, AS.bound, abin, aint, aload, astore, cellsAt, AV.cells, alen, elems, AV.int?, FPost, aresL, ares1, pack, afill, splice, Value.oneCell', Nat.reduceLT, Nat.reduceLeDiff, Nat.reduceEqDiff, Nat.reduceAdd, Nat.reduceMul, Nat.reduceSub, Nat.reduceBEq, Int.reduceLE, Int.reduceLT, Int.reduceToNat, Int.reduceNeg, Int.reduceEq, axt, ftK, ft3, pickP, AScope, AAll, pickQ, ftQ, inHeap, tys]
        refine ACallK.flat rfl (rHas [] y (by simp)) (by simp only [SeesL, h0, h4, h5, h8, hg, hg2, hp0, hq0, hql, hw2, U_len, List.not_mem_nil, U_nil, axs, axt, AS.ev, AS.put, upd, inHeap, Nat.reduceLT, Nat.reduceEqDiff, Nat.reduceAdd, Nat.reduceBEq]; repeat' (first | exact True.intro | exact Sees.sc | exact Sees.none | ((with_reducible refine Sees.same ?_) <;> simp [noIds, noIdsL, noIdsE, noIdsE_U, noIdsE_UU] <;> fail) | (refine Live.sees ?_ ?_ <;> first | assumption | (simp [noIdsE_U, noIdsE_UU] <;> fail)) | (refine Sees.obj ?_ ?_ ?_ <;> first | exact ⟨_, _, by assumption, rfl⟩ | (simp [U_len, UU_len] <;> fail) | (simp [noIdsE_U, noIdsE_UU] <;> fail) | (simp [U, UU, upd] <;> fail) | (simp [U, UU, upd, neS, *] <;> fail)) | (refine Sees.of_seen 3 ?_ <;> simp [seen, upd, noIdsE, noIdsL, noIds, U, UU, Nat.add_assoc] <;> fail) | refine Sees.agg ?_ | refine And.intro ?_ ?_ | simp only [SeesL])) (by simp [flatV, flatL]) ?_; simp (maxSteps := 400000) (dsimp := false) only [h0, h4, h5, h8, hg, hg2, hp0, hq0, hql, hw2, U_len, List.not_mem_nil, U_nil, axs, AThen, ABlock, dstsOk, AStep, callsF, AWant, aop, AS.ev, AS.put, upd, AS.bound, abin, aint, aload, astore, cellsAt, AV.cells, alen, elems, AV.int?, FPost, aresL, ares1, pack, afill, splice, Value.oneCell', Nat.reduceLT, Nat.reduceLeDiff, Nat.reduceEqDiff, Nat.reduceAdd, Nat.reduceMul, Nat.reduceSub, Nat.reduceBEq, Int.reduceLE, Int.reduceLT, Int.reduceToNat, Int.reduceNeg, Int.reduceEq, axt, ftK, ft3, pickP, AScope, AAll, pickQ, ftQ, inHeap, tys]
        exact ⟨hlt2, Live.mk (if_pos rfl) rfl, ha' (by simp)⟩
      · rw [U_len] at h7
        simp (maxSteps := 400000) (dsimp := false) only [h0, h4, h5, h7, hg, hg2, hp0, hq0, hql, U_len, axs, AThen, ABlock, dstsOk, AStep, callsF, AWant, aop, AS.ev, AS.put, upd, AS.bound, abin, aint, aload, astore, cellsAt, AV.cells, alen, elems, AV.int?, FPost, aresL, ares1, pack, afill, splice, Value.oneCell', Nat.reduceLT, Nat.reduceLeDiff, Nat.reduceEqDiff, Nat.reduceAdd, Nat.reduceMul, Nat.reduceSub, Nat.reduceBEq, Int.reduceLE, Int.reduceLT, Int.reduceToNat, Int.reduceNeg, Int.reduceEq, axt, ftK, ft3, pickP, AScope, AAll, pickQ, ftQ, inHeap, tys]
        by_cases e : y ∈ pre
        · refine ACallK.flat rfl (rHas pre y (by omega)) (by simp only [SeesL, h0, h4, h5, h7, h8, hne, hg, hg2, hp0, hq0, hql, hw2, U_len, e, axs, axt, AS.ev, AS.put, upd, inHeap, Nat.reduceLT, Nat.reduceEqDiff, Nat.reduceAdd, Nat.reduceBEq]; repeat' (first | exact True.intro | exact Sees.sc | exact Sees.none | ((with_reducible refine Sees.same ?_) <;> simp [noIds, noIdsL, noIdsE, noIdsE_U, noIdsE_UU] <;> fail) | (refine Live.sees ?_ ?_ <;> first | assumption | (simp [noIdsE_U, noIdsE_UU] <;> fail)) | (refine Sees.obj ?_ ?_ ?_ <;> first | exact ⟨_, _, by assumption, rfl⟩ | (simp [U_len, UU_len] <;> fail) | (simp [noIdsE_U, noIdsE_UU] <;> fail) | (simp [U, UU, upd] <;> fail) | (simp [U, UU, upd, neS, *] <;> fail)) | (refine Sees.of_seen 3 ?_ <;> simp [seen, upd, noIdsE, noIdsL, noIds, U, UU, Nat.add_assoc] <;> fail) | refine Sees.agg ?_ | refine And.intro ?_ ?_ | simp only [SeesL])) (by simp [flatV, flatL]) ?_; simp (maxSteps := 400000) (dsimp := false) only [h0, h4, h5, h7, h8, hne, hg, hg2, hp0, hq0, hql, hw2, U_len, e, axs, AThen, ABlock, dstsOk, AStep, callsF, AWant, aop, AS.ev, AS.put, upd, AS.bound, abin, aint, aload, astore, cellsAt, AV.cells, alen, elems, AV.int?, FPost, aresL, ares1, pack, afill, splice, Value.oneCell', Nat.reduceLT, Nat.reduceLeDiff, Nat.reduceEqDiff, Nat.reduceAdd, Nat.reduceMul, Nat.reduceSub, Nat.reduceBEq, Int.reduceLE, Int.reduceLT, Int.reduceToNat, Int.reduceNeg, Int.reduceEq, axt, ftK, ft3, pickP, AScope, AAll, pickQ, ftQ, inHeap, tys]
          rw [hfin, apart_twice _ _ _ e]
          exact ⟨_, rfl, Sees.sc⟩
        · refine ACallK.flat rfl (rHas pre y (by omega)) (by simp only [SeesL, h0, h4, h5, h7, h8, hne, hg, hg2, hp0, hq0, hql, hw2, U_len, e, b1, b2, axs, axt, AS.ev, AS.put, upd, inHeap, Nat.reduceLT, Nat.reduceEqDiff, Nat.reduceAdd, Nat.reduceBEq]; repeat' (first | exact True.intro | exact Sees.sc | exact Sees.none | ((with_reducible refine Sees.same ?_) <;> simp [noIds, noIdsL, noIdsE, noIdsE_U, noIdsE_UU] <;> fail) | (refine Live.sees ?_ ?_ <;> first | assumption | (simp [noIdsE_U, noIdsE_UU] <;> fail)) | (refine Sees.obj ?_ ?_ ?_ <;> first | exact ⟨_, _, by assumption, rfl⟩ | (simp [U_len, UU_len] <;> fail) | (simp [noIdsE_U, noIdsE_UU] <;> fail) | (simp [U, UU, upd] <;> fail) | (simp [U, UU, upd, neS, *] <;> fail)) | (refine Sees.of_seen 3 ?_ <;> simp [seen, upd, noIdsE, noIdsL, noIds, U, UU, Nat.add_assoc] <;> fail) | refine Sees.agg ?_ | refine And.intro ?_ ?_ | simp only [SeesL])) (by simp [flatV, flatL]) ?_; simp (maxSteps := 400000) (dsimp := false) only [h0, h4, h5, h7, h8, hne, hg, hg2, hp0, hq0, hql, hw2, U_len, e, b1, b2, axs, AThen, ABlock, dstsOk, AStep, callsF, AWant, aop, AS.ev, AS.put, upd, AS.bound, abin, aint, aload, astore, cellsAt, AV.cells, alen, elems, AV.int?, FPost, aresL, ares1, pack, afill, splice, Value.oneCell', Nat.reduceLT, Nat.reduceLeDiff, Nat.reduceEqDiff, Nat.reduceAdd, Nat.reduceMul, Nat.reduceSub, Nat.reduceBEq, Int.reduceLE, Int.reduceLT, Int.reduceToNat, Int.reduceNeg, Int.reduceEq, axt, ftK, ft3, pickP, AScope, AAll, pickQ, ftQ, inHeap, tys]
          exact ⟨hlt2, Live.mk (if_pos rfl) (by simp [U_len]), ha' e⟩
    · have hql : ¬ (q : Int) < x.length := by omega
      rw [List.take_of_length_le hge2] at hv ha
      have e : (ls.take p).flatten ++ x = (ls.take (p + 1)).flatten := by rw [hT]; simp
      rw [e] at hv ha
      simp (maxSteps := 400000) (dsimp := false) only [h0, h4, h5, hg, hp0, hql, hw, U_len, axs, AThen, ABlock, dstsOk, AStep, callsF, AWant, aop, AS.ev, AS.put, upd, AS.bound, abin, aint, aload, astore, cellsAt, AV.cells, alen, elems, AV.int?, FPost, aresL, ares1, pack, afill, splice, Value.oneCell', Nat.reduceLT, Nat.reduceLeDiff, Nat.reduceEqDiff, Nat.reduceAdd, Nat.reduceMul, Nat.reduceSub, Nat.reduceBEq, Int.reduceLE, Int.reduceLT, Int.reduceToNat, Int.reduceNeg, Int.reduceEq, axt, ftK, ft3, pickP, AScope, AAll, pickQ, ftQ, inHeap, tys]
      exact ⟨hlt, hv, ha⟩
  · have hpl : ¬ (p : Int) < ls.length := by omega
    rw [List.take_of_length_le hge] at ha
    simp (maxSteps := 400000) (dsimp := false) only [h0, h4, hpl, UU_len, ha, axs, AThen, ABlock, dstsOk, AStep, callsF, AWant, aop, AS.ev, AS.put, upd, AS.bound, abin, aint, aload, astore, cellsAt, AV.cells, alen, elems, AV.int?, FPost, aresL, ares1, pack, afill, splice, Value.oneCell', Nat.reduceLT, Nat.reduceLeDiff, Nat.reduceEqDiff, Nat.reduceAdd, Nat.reduceMul, Nat.reduceSub, Nat.reduceBEq, Int.reduceLE, Int.reduceLT, Int.reduceToNat, Int.reduceNeg, Int.reduceEq, axt, ftK, ft3, pickP, AScope, AAll, pickQ, ftQ, inHeap, tys]
    exact ⟨_, rfl, Sees.sc⟩
/-- A set with a key more. -/
def addK (ks : List Int) (v : Int) : List Int := if v ∈ ks then ks else ks ++ [v]
theorem addK_le : ∀ (l ks : List Int), (l.foldl addK ks).length ≤ ks.length + l.length
  | [], ks => by simp
  | x :: l, ks => by
    have := addK_le l (addK ks x)
    have h : (addK ks x).length ≤ ks.length + 1 := by unfold addK; split <;> simp
    simp only [List.foldl_cons, List.length_cons]; omega
theorem addK_all : ∀ (l ks : List Int), ks.Nodup → ((l.foldl addK ks).length = ks.length + l.length ↔ (ks ++ l).Nodup)
  | [], ks, h => by simp [h]
  | x :: l, ks, h => by
    simp only [List.foldl_cons, List.length_cons]
    by_cases e : x ∈ ks
    · have h1 : addK ks x = ks := if_pos e
      rw [h1]
      have := addK_le l ks
      constructor
      · intro h2; omega
      · intro h2; rw [List.nodup_append] at h2; exact absurd rfl (h2.2.2 x e x (by simp))
    · have h1 : addK ks x = ks ++ [x] := if_neg e
      have h3 : (ks ++ [x]).Nodup := apart_iff.1 (apart_snoc ks x (apart_iff.2 h) e)
      have ih := addK_all l (ks ++ [x]) h3
      rw [h1, show ks ++ x :: l = ks ++ [x] ++ l by simp, ← ih]
      simp only [List.length_append, List.length_cons, List.length_nil]
      omega
theorem addK_apart (l : List Int) : decide ((((l.foldl addK []).length : Nat) : Int) = (l.length : Int)) = apart l := by
  have h := addK_all l [] (by simp)
  rw [List.nil_append, ← apart_iff] at h
  simp only [List.length_nil, Nat.zero_add] at h
  by_cases e : apart l = true
  · rw [e, decide_eq_true_iff]; have := h.2 e; omega
  · have e' : apart l = false := by simpa using e
    rw [e', decide_eq_false_iff_not]
    intro h2
    exact e (h.1 (by omega))
end Go.Al
