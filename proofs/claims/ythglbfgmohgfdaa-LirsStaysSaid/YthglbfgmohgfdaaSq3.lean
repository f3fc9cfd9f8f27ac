/- What the library's deletion by a test comes to. Conditions: none. -/
import Derived.Test.YthglbfgmohgfdaaSq2
set_option linter.unusedVariables false
set_option linter.unusedSimpArgs false
namespace Go.Al
open Go.Proofs
def without (l : List Int) (v : Int) : List Int := l.filter fun x => decide (x ≠ v)
theorem U_set (c : List Int) (i : Nat) (x : Int) : (U c).set i [.sc (.int .u64 x)] = U (c.set i x) := by simp [U, List.map_set]
theorem without_miss {l : List Int} {v : Int} (h : idxF l v = -1) : without l v = l := by
  unfold without
  rw [List.filter_eq_self]
  intro x hx
  have := idxF_nonneg (l := l) (v := v)
  rw [h] at this
  have : v ∉ l := by simpa using this
  simp only [decide_eq_true_eq]
  rintro rfl; exact this hx
theorem idxF_hit' {l : List Int} {v : Int} (h : idxF l v ≠ -1) : ∃ p : Nat, idxF l v = p ∧ l[p]? = some v ∧ (∀ q, q < p → l[q]? ≠ some v) ∧ without (l.take (p + 1)) v = l.take p := by
  unfold idxF at h ⊢
  cases e : l.findIdx? (· == v) with
  | none => rw [e] at h; exact absurd rfl h
  | some p =>
    rw [List.findIdx?_eq_some_iff_getElem] at e
    obtain ⟨hp, h1, h2⟩ := e
    have hv : l[p] = v := by simpa using h1
    refine ⟨p, rfl, by rw [List.getElem?_eq_getElem hp, hv], ?_, ?_⟩
    · intro q hq
      rw [List.getElem?_eq_getElem (by omega)]
      have := h2 q hq
      simpa using this
    · rw [List.take_add_one, List.getElem?_eq_getElem hp, hv]
      unfold without
      rw [List.filter_append]
      have : (l.take p).filter (fun x => decide (x ≠ v)) = l.take p := by
        rw [List.filter_eq_self]
        intro x hx
        obtain ⟨q, hq, rfl⟩ := List.mem_iff_getElem.1 hx
        have hq' : q < p := by simp at hq; omega
        have := h2 q hq'
        simpa using this
      rw [this]
      simp
theorem cDeleteFunc (l : List Int) (v : Int) (hl : l.length ≤ 1000000) (H : AH) (n id kb te tf : Nat) (hne : kb ≠ id) (hid : H id = some (.obj te 1 (U l) false)) (hk : H kb = some (.obj tf 1 [[.sc (.int .u64 v)]] false)) :
    HCalls Try.prog 67 [.sl id 1 0 l.length, .fn 68 [.ptr kb 1 0 0]] H n
      fun r H' n' => ∃ es, r = .sl id 1 0 (without l v).length ∧ H' = upd H id (some (.obj te 1 (U (without l v) ++ es) false)) ∧ n' = n := by
  refine HCalls.walk Try.func67 rfl rfl Try.ntmps67 Try.results67 (by simp) ?_; simp (maxSteps := 400000) (dsimp := false) only [axs, AThen, ABlock, dstsOk, AStep, callsF, AWant, aop, AS.ev, AS.put, upd, AS.bound, abin, aint, aload, astore, cellsAt, AV.cells, alen, elems, AV.int?, FPost, aresL, ares1, pack, afill, splice, Value.oneCell', Nat.reduceLT, Nat.reduceLeDiff, Nat.reduceEqDiff, Nat.reduceAdd, Nat.reduceMul, Nat.reduceSub, Nat.reduceBEq, Int.reduceLE, Int.reduceLT, Int.reduceToNat, Int.reduceNeg, Int.reduceEq, axt, ftK, ft3, pickP, AScope, AAll, pickQ, ftQ, inHeap, tys]
  refine ACallK.heap _ rfl (cIndexFunc l v hl H n id kb te tf false [] hid hk) ?_
  rintro r H' n' ⟨rfl, rfl, rfl⟩
  simp (maxSteps := 400000) (dsimp := false) only [axs, AThen, ABlock, dstsOk, AStep, callsF, AWant, aop, AS.ev, AS.put, upd, AS.bound, abin, aint, aload, astore, cellsAt, AV.cells, alen, elems, AV.int?, FPost, aresL, ares1, pack, afill, splice, Value.oneCell', Nat.reduceLT, Nat.reduceLeDiff, Nat.reduceEqDiff, Nat.reduceAdd, Nat.reduceMul, Nat.reduceSub, Nat.reduceBEq, Int.reduceLE, Int.reduceLT, Int.reduceToNat, Int.reduceNeg, Int.reduceEq, axt, ftK, ft3, pickP, AScope, AAll, pickQ, ftQ, inHeap, tys]
  refine ACond.intro _ (fun hc => ?_) (fun hc => ?_)
  · have hm : idxF l v = -1 := by simpa using hc
    have hw := without_miss hm
    simp (maxSteps := 400000) (dsimp := false) only [axs, AThen, ABlock, dstsOk, AStep, callsF, AWant, aop, AS.ev, AS.put, upd, AS.bound, abin, aint, aload, astore, cellsAt, AV.cells, alen, elems, AV.int?, FPost, aresL, ares1, pack, afill, splice, Value.oneCell', Nat.reduceLT, Nat.reduceLeDiff, Nat.reduceEqDiff, Nat.reduceAdd, Nat.reduceMul, Nat.reduceSub, Nat.reduceBEq, Int.reduceLE, Int.reduceLT, Int.reduceToNat, Int.reduceNeg, Int.reduceEq, axt, ftK, ft3, pickP, AScope, AAll, pickQ, ftQ, inHeap, tys]
    refine ⟨_, rfl, [], ?_, ?_⟩
    · rw [hw]
    · rw [hw, List.append_nil, ← hid, upd_self]
  · have hm : idxF l v ≠ -1 := by simpa using hc
    obtain ⟨p, hp, hpv, hpq, hpt⟩ := idxF_hit' hm
    have hplt : p < l.length := (List.getElem?_eq_some_iff.1 hpv).1
    have hw1 : IntKind.i64.wrap ((p : Int) + 1) = ((p + 1 : Nat) : Int) := by rw [wrap_in (by omega) (by omega)]; rfl
    simp (maxSteps := 400000) (dsimp := false) only [hp, hw1, axs, AThen, ABlock, dstsOk, AStep, callsF, AWant, aop, AS.ev, AS.put, upd, AS.bound, abin, aint, aload, astore, cellsAt, AV.cells, alen, elems, AV.int?, FPost, aresL, ares1, pack, afill, splice, Value.oneCell', Nat.reduceLT, Nat.reduceLeDiff, Nat.reduceEqDiff, Nat.reduceAdd, Nat.reduceMul, Nat.reduceSub, Nat.reduceBEq, Int.reduceLE, Int.reduceLT, Int.reduceToNat, Int.reduceNeg, Int.reduceEq, axt, ftK, ft3, pickP, AScope, AAll, pickQ, ftQ, inHeap, tys]
    refine ALoop.intro (fun k s => ∃ (j i : Nat) (c : List Int), j ≤ l.length ∧ i < j ∧ k = l.length - j ∧ s.t 0 = .sl id 1 0 l.length ∧ s.t 1 = .fn 68 [.ptr kb 1 0 0] ∧ s.t 5 = .sc (.int .i64 i) ∧ s.t 6 = .sc (.int .i64 j) ∧
      s.H = upd H' id (some (.obj te 1 (U c) false)) ∧ s.n = n' ∧ c.length = l.length ∧ i = (without (l.take j) v).length ∧ c.take i = without (l.take j) v ∧ c.drop j = l.drop j) (l.length - (p + 1))
      ⟨p + 1, p, l, by omega, by omega, rfl, rfl, rfl, rfl, rfl, ?_, rfl, rfl, ?_, ?_, rfl⟩ ?_
    · show H' = _
      rw [← hid, upd_self]
    · rw [hpt, List.length_take]; omega
    · rw [hpt]
    rintro k s ⟨j, i, c, hj, hij, rfl, h0, h1, h5, h6, hH, hn, hcl, hi, hct, hcd⟩
    simp (maxSteps := 400000) (dsimp := false) only [h0, h1, h5, h6, axs, AThen, ABlock, dstsOk, AStep, callsF, AWant, aop, AS.ev, AS.put, upd, AS.bound, abin, aint, aload, astore, cellsAt, AV.cells, alen, elems, AV.int?, FPost, aresL, ares1, pack, afill, splice, Value.oneCell', Nat.reduceLT, Nat.reduceLeDiff, Nat.reduceEqDiff, Nat.reduceAdd, Nat.reduceMul, Nat.reduceSub, Nat.reduceBEq, Int.reduceLE, Int.reduceLT, Int.reduceToNat, Int.reduceNeg, Int.reduceEq, axt, ftK, ft3, pickP, AScope, AAll, pickQ, ftQ, inHeap, tys]
    refine ACond.intro _ (fun hc => ?_) (fun hc => ?_)
    · have hlt : j < l.length := by simp at hc; omega
      obtain ⟨x, hx⟩ : ∃ x, l[j]? = some x := ⟨_, List.getElem?_eq_getElem hlt⟩
      have hcx : c[j]? = some x := by
        have : (c.drop j)[0]? = (l.drop j)[0]? := by rw [hcd]
        simpa [List.getElem?_drop, hx] using this
      have hg := U_get hcx
      have hj0 : (0 : Int) ≤ j := by omega
      have hjl : (j : Int) < l.length := by omega
      have hjn : ((j : Int)).toNat = j := by omega
      have hk' : upd H' id (some (.obj te 1 (U c) false)) kb = some (.obj tf 1 [[.sc (.int .u64 v)]] false) := by rw [upd_ne _ _ hne]; exact hk
      have hwj : IntKind.i64.wrap ((j : Int) + 1) = ((j + 1 : Nat) : Int) := by rw [wrap_in (by omega) (by omega)]; rfl
      have hwi : IntKind.i64.wrap ((i : Int) + 1) = ((i + 1 : Nat) : Int) := by rw [wrap_in (by omega) (by omega)]; rfl
      have hdn : c.drop (j + 1) = l.drop (j + 1) := by
        have : (c.drop j).drop 1 = (l.drop j).drop 1 := by rw [hcd]
        simpa [List.drop_drop] using this
      have htk : without (l.take (j + 1)) v = without (l.take j) v ++ (if x = v then [] else [x]) := by
        rw [List.take_add_one, hx]
        unfold without
        rw [List.filter_append]
        by_cases e : x = v <;> simp [e]
      simp (maxSteps := 400000) (dsimp := false) only [h0, h1, h5, h6, hj0, hjl, hjn, hg, hH, hn, upd_same, axs, AThen, ABlock, dstsOk, AStep, callsF, AWant, aop, AS.ev, AS.put, upd, AS.bound, abin, aint, aload, astore, cellsAt, AV.cells, alen, elems, AV.int?, FPost, aresL, ares1, pack, afill, splice, Value.oneCell', Nat.reduceLT, Nat.reduceLeDiff, Nat.reduceEqDiff, Nat.reduceAdd, Nat.reduceMul, Nat.reduceSub, Nat.reduceBEq, Int.reduceLE, Int.reduceLT, Int.reduceToNat, Int.reduceNeg, Int.reduceEq, axt, ftK, ft3, pickP, AScope, AAll, pickQ, ftQ, inHeap, tys]
      refine ACallK.heap _ rfl (cIs v x _ _ kb tf hk') ?_
      rintro r H2 n2 ⟨rfl, rfl, rfl⟩
      simp (maxSteps := 400000) (dsimp := false) only [h0, h1, h5, h6, axs, AThen, ABlock, dstsOk, AStep, callsF, AWant, aop, AS.ev, AS.put, upd, AS.bound, abin, aint, aload, astore, cellsAt, AV.cells, alen, elems, AV.int?, FPost, aresL, ares1, pack, afill, splice, Value.oneCell', Nat.reduceLT, Nat.reduceLeDiff, Nat.reduceEqDiff, Nat.reduceAdd, Nat.reduceMul, Nat.reduceSub, Nat.reduceBEq, Int.reduceLE, Int.reduceLT, Int.reduceToNat, Int.reduceNeg, Int.reduceEq, axt, ftK, ft3, pickP, AScope, AAll, pickQ, ftQ, inHeap, tys]
      refine ACond.intro _ (fun hd => ?_) (fun hd => ?_)
      · have e : ¬ x = v := by simpa using hd
        have hi0 : (0 : Int) ≤ i := by omega
        have hil : (i : Int) < l.length := by omega
        have hin : ((i : Int)).toNat = i := by omega
        obtain ⟨y, hy⟩ : ∃ y, c[i]? = some y := ⟨_, List.getElem?_eq_getElem (by omega)⟩
        have hgi := U_get hy
        simp (maxSteps := 400000) (dsimp := false) only [h0, h1, h5, h6, hi0, hil, hin, hgi, upd_same, U_set, hwi, hwj, upd_upd, hn, axs, AThen, ABlock, dstsOk, AStep, callsF, AWant, aop, AS.ev, AS.put, upd, AS.bound, abin, aint, aload, astore, cellsAt, AV.cells, alen, elems, AV.int?, FPost, aresL, ares1, pack, afill, splice, Value.oneCell', Nat.reduceLT, Nat.reduceLeDiff, Nat.reduceEqDiff, Nat.reduceAdd, Nat.reduceMul, Nat.reduceSub, Nat.reduceBEq, Int.reduceLE, Int.reduceLT, Int.reduceToNat, Int.reduceNeg, Int.reduceEq, axt, ftK, ft3, pickP, AScope, AAll, pickQ, ftQ, inHeap, tys]
        have hlen : (without (l.take (j + 1)) v).length = i + 1 := by rw [htk, if_neg e, List.length_append, ← hi]; rfl
        refine ⟨_, ?_, j + 1, i + 1, c.set i x, by omega, by omega, rfl, rfl, rfl, rfl, by simpa using hcl, hlen.symm, ?_, ?_⟩
        · omega
        · rw [htk, if_neg e, ← hct, List.take_add_one, List.getElem?_set_self (by omega), List.take_set_of_le (Nat.le_refl _)]
          rfl
        · rw [List.drop_set_of_lt (by omega), hdn]
      · have e : x = v := by simpa using hd
        simp (maxSteps := 400000) (dsimp := false) only [h0, h1, h5, h6, hwj, hn, axs, AThen, ABlock, dstsOk, AStep, callsF, AWant, aop, AS.ev, AS.put, upd, AS.bound, abin, aint, aload, astore, cellsAt, AV.cells, alen, elems, AV.int?, FPost, aresL, ares1, pack, afill, splice, Value.oneCell', Nat.reduceLT, Nat.reduceLeDiff, Nat.reduceEqDiff, Nat.reduceAdd, Nat.reduceMul, Nat.reduceSub, Nat.reduceBEq, Int.reduceLE, Int.reduceLT, Int.reduceToNat, Int.reduceNeg, Int.reduceEq, axt, ftK, ft3, pickP, AScope, AAll, pickQ, ftQ, inHeap, tys]
        rw [if_pos e, List.append_nil] at htk
        exact ⟨_, by omega, j + 1, i, c, by omega, by omega, rfl, rfl, rfl, rfl, hcl, by rw [htk]; exact hi, by rw [htk]; exact hct, hdn⟩
    · have hge : j = l.length := by simp at hc; omega
      subst hge
      have hi0 : (0 : Int) ≤ i := by omega
      have hil : (i : Int) ≤ l.length := by omega
      simp (maxSteps := 400000) (dsimp := false) only [h0, h1, h5, h6, hH, hn, hi0, hil, axs, AThen, ABlock, dstsOk, AStep, callsF, AWant, aop, AS.ev, AS.put, upd, AS.bound, abin, aint, aload, astore, cellsAt, AV.cells, alen, elems, AV.int?, FPost, aresL, ares1, pack, afill, splice, Value.oneCell', Nat.reduceLT, Nat.reduceLeDiff, Nat.reduceEqDiff, Nat.reduceAdd, Nat.reduceMul, Nat.reduceSub, Nat.reduceBEq, Int.reduceLE, Int.reduceLT, Int.reduceToNat, Int.reduceNeg, Int.reduceEq, axt, ftK, ft3, pickP, AScope, AAll, pickQ, ftQ, inHeap, tys]
      refine AStepX.clear rfl rfl rfl rfl sl25 ty35 rfl (by decide) rfl rfl rfl (.inl rfl) (upd_same _ _ _) (by rw [U_len]; omega) ?_
      simp (maxSteps := 400000) (dsimp := false) only [h0, h1, h5, h6, hi0, hil, upd_upd, axs, AThen, ABlock, dstsOk, AStep, callsF, AWant, aop, AS.ev, AS.put, upd, AS.bound, abin, aint, aload, astore, cellsAt, AV.cells, alen, elems, AV.int?, FPost, aresL, ares1, pack, afill, splice, Value.oneCell', Nat.reduceLT, Nat.reduceLeDiff, Nat.reduceEqDiff, Nat.reduceAdd, Nat.reduceMul, Nat.reduceSub, Nat.reduceBEq, Int.reduceLE, Int.reduceLT, Int.reduceToNat, Int.reduceNeg, Int.reduceEq, axt, ftK, ft3, pickP, AScope, AAll, pickQ, ftQ, inHeap, tys]
      have hw : without (l.take l.length) v = without l v := by rw [List.take_length]
      rw [hw] at hi hct
      refine ⟨_, rfl, List.replicate (l.length - i) [.sc (.int .u64 0)] ++ (U c).drop (i + (l.length - i)), ?_, ?_⟩
      · first | (rw [← hi]; done) | (rw [← hi]; rfl)
      · simp only [over, U_take, hct, List.append_assoc]
        first | done | simp
end Go.Al
