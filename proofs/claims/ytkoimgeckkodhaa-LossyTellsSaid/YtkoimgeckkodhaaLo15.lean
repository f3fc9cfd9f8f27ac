/- A map that forgets, by the reference: does an answer fit? Conditions: the rows are short. -/
import Derived.Test.YtkoimgeckkodhaaLo14
set_option linter.unusedVariables false
set_option linter.unusedSimpArgs false
set_option maxRecDepth 20000
set_option maxHeartbeats 6400000
-- NOIDS: noIdsE_PR, noIdsE_OL, noIdsE_AL
-- LENS: PR_len, OL_len, AL_len
namespace Go.Al
open Go.Proofs
/-- The walk's rewritings but the one that opens a region. -/
theorem axr : (type_of% @ax_skip) ∧
    (type_of% @ax_label) ∧
    (type_of% @ax_ret) ∧
    (type_of% @ax_exit) ∧
    (type_of% @ax_seq) ∧
    (type_of% @ax_cond) ∧
    (type_of% @ax_block) ∧
    (type_of% @ax_draw) ∧
    (type_of% @ax_loop) ∧
    (type_of% @ACond_true) ∧
    (type_of% @ACond_false) ∧
    (type_of% @List.all_cons.{0}) ∧
    (type_of% @List.all_nil.{0}) ∧
    (type_of% @AOps_nil) ∧
    (type_of% @AOps_cons) ∧
    (type_of% @AOpsD_nil) ∧
    (type_of% @AOpsD_cons) ∧
    (type_of% @decide_true) ∧
    (type_of% @decide_false) ∧
    (type_of% @Bool.and_self) ∧
    (type_of% @Bool.and_true) ∧
    (type_of% @Bool.true_and) ∧
    (type_of% @true_and) ∧
    (type_of% @and_true) ∧
    (type_of% @if_true.{1}) ∧
    (type_of% @if_false.{1}) ∧
    (type_of% @ite_true.{1}) ∧
    (type_of% @ite_false.{1}) ∧
    (type_of% @Bool.false_eq_true) ∧
    (type_of% @Option.bind_some.{0, 0}) ∧
    (type_of% @Option.bind_none.{0, 0}) ∧
    (type_of% @Option.map_some.{0, 0}) ∧
    (type_of% @Option.some.injEq.{0}) ∧
    (type_of% @List.getD_cons_zero.{0}) ∧
    (type_of% @List.getD_cons_succ.{0}) ∧
    (type_of% @List.getD_nil.{0}) ∧
    (type_of% @List.map_cons.{0, 0}) ∧
    (type_of% @List.map_nil.{0, 0}) ∧
    (type_of% @List.length_cons.{0}) ∧
    (type_of% @List.length_nil.{0}) ∧
    (type_of% @List.getElem?_cons_zero.{0}) ∧
    (type_of% @List.getElem?_cons_succ.{0}) ∧
    (type_of% @List.getElem?_nil.{0}) ∧
    (type_of% @List.drop_zero.{0}) ∧
    (type_of% @List.drop_succ_cons.{0}) ∧
    (type_of% @List.drop_nil.{0}) ∧
    (type_of% @List.take_zero.{0}) ∧
    (type_of% @List.take_succ_cons.{0}) ∧
    (type_of% @List.take_nil.{0}) ∧
    (type_of% @List.cons_append.{0}) ∧
    (type_of% @List.nil_append.{0}) ∧
    (type_of% @List.append_nil.{0}) ∧
    (type_of% @List.set_cons_zero.{0}) ∧
    (type_of% @List.set_cons_succ.{0}) ∧
    (type_of% @List.mapM_cons.{0, 0, 0}) ∧
    (type_of% @List.mapM_nil.{0, 0, 0}) ∧
    (type_of% @Option.pure_def.{0}) ∧
    (type_of% @Option.bind_eq_bind.{0}) ∧
    (type_of% @List.flatten_cons.{0}) ∧
    (type_of% @List.flatten_nil.{0}) ∧
    (type_of% @List.replicate_succ.{0}) ∧
    (type_of% @List.replicate_zero.{0}) ∧
    (type_of% @List.range_succ) ∧
    (type_of% @List.range_zero) ∧
    (type_of% @List.foldl_cons.{0, 0}) ∧
    (type_of% @List.foldl_nil.{0, 0}) ∧
    (type_of% @BEq.rfl.{0}) ∧
    (type_of% @beq_self_eq_true.{0}) ∧
    (type_of% @Nat.zero_add) ∧
    (type_of% @Nat.add_zero) ∧
    (type_of% @Nat.zero_mul) ∧
    (type_of% @Nat.mul_zero) ∧
    (type_of% @Nat.one_mul) ∧
    (type_of% @Nat.mul_one) ∧
    (type_of% @Bool.not_true) ∧
    (type_of% @Bool.not_false) ∧
    (type_of% @ne_eq.{1}) ∧
    (type_of% @not_true_eq_false) ∧
    (type_of% @not_false_eq_true) ∧
    (type_of% @Array.getD_eq_getD_getElem?.{0}) ∧
    (type_of% @List.getElem?_toArray.{0}) ∧
    (type_of% @Option.getD_some.{0}) ∧
    (type_of% @Int.toNat_zero) ∧
    (type_of% @Int.toNat_one) ∧
    (type_of% @Nat.le_refl) ∧
    (type_of% @Int.le_refl) ∧
    (type_of% @unary_not) ∧
    (type_of% @unary_neg) ∧
    (type_of% @Option.isSome_none.{0}) ∧
    (type_of% @Option.isSome_some.{0}) ∧
    (type_of% @Int.toNat_natCast) ∧
    (type_of% @Int.cast_ofNat_Int) ∧
    (type_of% @Nat.sub_zero) ∧
    (type_of% @beqT) ∧
    (type_of% @beqF) ∧
    (type_of% @eq_self.{1}) :=
  ⟨@ax_skip, @ax_label, @ax_ret, @ax_exit, @ax_seq, @ax_cond, @ax_block, @ax_draw, @ax_loop, @ACond_true, @ACond_false, @List.all_cons.{0}, @List.all_nil.{0}, @AOps_nil, @AOps_cons, @AOpsD_nil, @AOpsD_cons, @decide_true, @decide_false, @Bool.and_self, @Bool.and_true, @Bool.true_and, @true_and, @and_true, @if_true.{1}, @if_false.{1}, @ite_true.{1}, @ite_false.{1}, @Bool.false_eq_true, @Option.bind_some.{0, 0}, @Option.bind_none.{0, 0}, @Option.map_some.{0, 0}, @Option.some.injEq.{0}, @List.getD_cons_zero.{0}, @List.getD_cons_succ.{0}, @List.getD_nil.{0}, @List.map_cons.{0, 0}, @List.map_nil.{0, 0}, @List.length_cons.{0}, @List.length_nil.{0}, @List.getElem?_cons_zero.{0}, @List.getElem?_cons_succ.{0}, @List.getElem?_nil.{0}, @List.drop_zero.{0}, @List.drop_succ_cons.{0}, @List.drop_nil.{0}, @List.take_zero.{0}, @List.take_succ_cons.{0}, @List.take_nil.{0}, @List.cons_append.{0}, @List.nil_append.{0}, @List.append_nil.{0}, @List.set_cons_zero.{0}, @List.set_cons_succ.{0}, @List.mapM_cons.{0, 0, 0}, @List.mapM_nil.{0, 0, 0}, @Option.pure_def.{0}, @Option.bind_eq_bind.{0}, @List.flatten_cons.{0}, @List.flatten_nil.{0}, @List.replicate_succ.{0}, @List.replicate_zero.{0}, @List.range_succ, @List.range_zero, @List.foldl_cons.{0, 0}, @List.foldl_nil.{0, 0}, @BEq.rfl.{0}, @beq_self_eq_true.{0}, @Nat.zero_add, @Nat.add_zero, @Nat.zero_mul, @Nat.mul_zero, @Nat.one_mul, @Nat.mul_one, @Bool.not_true, @Bool.not_false, @ne_eq.{1}, @not_true_eq_false, @not_false_eq_true, @Array.getD_eq_getD_getElem?.{0}, @List.getElem?_toArray.{0}, @Option.getD_some.{0}, @Int.toNat_zero, @Int.toNat_one, @Nat.le_refl, @Int.le_refl, @unary_not, @unary_neg, @Option.isSome_none.{0}, @Option.isSome_some.{0}, @Int.toNat_natCast, @Int.cast_ofNat_Int, @Nat.sub_zero, @beqT, @beqF, @eq_self.{1}⟩
def bareB (a : LAns) : Bool := !a.hit && (decide (a.val = 0) && decide (a.out = []))
theorem bare_iff {a : LAns} : bareB a = true ↔ a.hit = false ∧ a.val = 0 ∧ a.out = [] := by
  unfold bareB
  cases a.hit <;> simp
/-- Where nothing is told of a key, an answer that fits is bare. -/
theorem fits_bare {m : List (Int × Int)} {o : LOp} {a : LAns} (h : fitsB m o a = true) (k1 : ¬ o.kind = 1) (k2 : ¬ o.kind = 2) (k3 : ¬ o.kind = 3) (k4 : o.kind = 4 → a.err = 1) : bareB a = true := by
  have h1 : is123 o.kind = false := by simp [is123, k1, k2, k3]
  unfold fitsB at h
  simp only [Bool.and_eq_true, decide_eq_true_eq] at h
  obtain ⟨g0, g1, g2, _, g4, _⟩ := h
  rw [bare_iff]
  by_cases e4 : o.kind = 4
  · have e5 : ¬ o.kind = 5 := by omega
    have w : want m o a = ⟨false, 0, 0, if a.err = 1 ∧ a.out = [] then 1 else 0⟩ := by unfold want; rw [h1, if_neg (by simp), if_neg e5, if_pos e4]
    rw [w] at g1 g2 g4
    refine ⟨g1, g2, ?_⟩
    by_cases ho : a.out = []
    · exact ho
    · have g4 : a.err = (if a.err = 1 ∧ a.out = [] then 1 else 0) := g4
      rw [if_neg (fun h => ho h.2), k4 e4] at g4
      omega
  · have g3 : a.out = [] := by
      rw [Bool.or_eq_true] at g0
      rcases g0 with h | h
      · simp [mayOut, e4, k2] at h
      · exact of_decide_eq_true h
    have hw : (want m o a).hit = false ∧ (want m o a).val = 0 := by
      unfold want
      rw [h1, if_neg (by simp)]
      repeat' split
      all_goals exact ⟨rfl, rfl⟩
    exact ⟨by rw [g1]; exact hw.1, by rw [g2]; exact hw.2, g3⟩
theorem outB_nil (m : List (Int × Int)) : outB m [] = true := decide_eq_true ⟨fun x hx => (nomatch hx), List.nodup_nil⟩
theorem bne_tf : (true != false) = true := rfl
theorem bne_ft : (false != true) = true := rfl
theorem rFits (m : List (Int × Int)) (o : LOp) (a : LAns) (nd : (keys m).Nodup) (hm : m.length ≤ 1000) (hl : a.out.length ≤ 1000) : PCalls Try.prog 17 [.lst 2 (PR m), .agg o.cells, .agg a.cells] (.sc (.bool (fitsB m o a))) := by
  unfold LOp.cells LAns.cells
  have co := rOuts m a.out nd hm hl
  have cp := rPlace m o.key (by omega)
  refine PCalls.intro2 Try.func17 rfl rfl Try.ntmps17 Try.results17 (by simp) fun n => ?_; simp (maxSteps := 400000) (dsimp := false) only [axs, AThen, ABlock, dstsOk, AStep, callsF, AWant, aop, AS.ev, AS.put, upd, AS.bound, abin, aint, aload, astore, cellsAt, AV.cells, alen, elems, AV.int?, FPost, aresL, ares1, pack, afill, splice, Value.oneCell', Nat.reduceLT, Nat.reduceLeDiff, Nat.reduceEqDiff, Nat.reduceAdd, Nat.reduceMul, Nat.reduceSub, Nat.reduceBEq, Int.reduceLE, Int.reduceLT, Int.reduceToNat, Int.reduceNeg, Int.reduceEq, axt, ftK, ft3, pickP, AScope, AAll, pickQ, ftQ, inHeap, tys]
  cases hob : outB m a.out with
  | false =>
    have hF : fitsB m o a = false := by unfold fitsB; rw [hob]; simp
    rw [hob] at co
    refine ACallK.strict rfl (co) (by simp only [SeesL, hF, axs, axt, AS.ev, AS.put, upd, inHeap, Nat.reduceLT, Nat.reduceEqDiff, Nat.reduceAdd, Nat.reduceBEq]; repeat' (first | exact True.intro | exact Sees.sc | exact Sees.none | ((with_reducible refine Sees.same ?_) <;> simp [noIds, noIdsL, noIdsE, noIdsE_U, noIdsE_UU, noIdsE_PR, noIdsE_OL, noIdsE_AL] <;> fail) | (refine Live.sees ?_ ?_ <;> first | assumption | (simp [noIdsE_U, noIdsE_UU, noIdsE_PR, noIdsE_OL, noIdsE_AL] <;> fail)) | (refine Sees.obj ?_ ?_ ?_ <;> first | exact ⟨_, _, by assumption, rfl⟩ | (simp [U_len, UU_len, PR_len, OL_len, AL_len] <;> fail) | (simp [noIdsE_U, noIdsE_UU, noIdsE_PR, noIdsE_OL, noIdsE_AL] <;> fail) | (simp [U, UU, upd] <;> fail) | (simp [U, UU, upd, neS, *] <;> fail)) | (refine Sees.of_seen 3 ?_ <;> simp [seen, upd, noIdsE, noIdsL, noIds, U, UU, Nat.add_assoc] <;> fail) | refine Sees.agg ?_ | refine And.intro ?_ ?_ | simp only [SeesL])) ?_; simp (maxSteps := 400000) (dsimp := false) only [hF, axs, AThen, ABlock, dstsOk, AStep, callsF, AWant, aop, AS.ev, AS.put, upd, AS.bound, abin, aint, aload, astore, cellsAt, AV.cells, alen, elems, AV.int?, FPost, aresL, ares1, pack, afill, splice, Value.oneCell', Nat.reduceLT, Nat.reduceLeDiff, Nat.reduceEqDiff, Nat.reduceAdd, Nat.reduceMul, Nat.reduceSub, Nat.reduceBEq, Int.reduceLE, Int.reduceLT, Int.reduceToNat, Int.reduceNeg, Int.reduceEq, axt, ftK, ft3, pickP, AScope, AAll, pickQ, ftQ, inHeap, tys]
    exact ⟨_, rfl, Sees.sc⟩
  | true =>
    rw [hob] at co
    refine ACallK.strict rfl (co) (by simp only [SeesL, axs, axt, AS.ev, AS.put, upd, inHeap, Nat.reduceLT, Nat.reduceEqDiff, Nat.reduceAdd, Nat.reduceBEq]; repeat' (first | exact True.intro | exact Sees.sc | exact Sees.none | ((with_reducible refine Sees.same ?_) <;> simp [noIds, noIdsL, noIdsE, noIdsE_U, noIdsE_UU, noIdsE_PR, noIdsE_OL, noIdsE_AL] <;> fail) | (refine Live.sees ?_ ?_ <;> first | assumption | (simp [noIdsE_U, noIdsE_UU, noIdsE_PR, noIdsE_OL, noIdsE_AL] <;> fail)) | (refine Sees.obj ?_ ?_ ?_ <;> first | exact ⟨_, _, by assumption, rfl⟩ | (simp [U_len, UU_len, PR_len, OL_len, AL_len] <;> fail) | (simp [noIdsE_U, noIdsE_UU, noIdsE_PR, noIdsE_OL, noIdsE_AL] <;> fail) | (simp [U, UU, upd] <;> fail) | (simp [U, UU, upd, neS, *] <;> fail)) | (refine Sees.of_seen 3 ?_ <;> simp [seen, upd, noIdsE, noIdsL, noIds, U, UU, Nat.add_assoc] <;> fail) | refine Sees.agg ?_ | refine And.intro ?_ ?_ | simp only [SeesL])) ?_; simp (maxSteps := 400000) (dsimp := false) only [axs, AThen, ABlock, dstsOk, AStep, callsF, AWant, aop, AS.ev, AS.put, upd, AS.bound, abin, aint, aload, astore, cellsAt, AV.cells, alen, elems, AV.int?, FPost, aresL, ares1, pack, afill, splice, Value.oneCell', Nat.reduceLT, Nat.reduceLeDiff, Nat.reduceEqDiff, Nat.reduceAdd, Nat.reduceMul, Nat.reduceSub, Nat.reduceBEq, Int.reduceLE, Int.reduceLT, Int.reduceToNat, Int.reduceNeg, Int.reduceEq, axt, ftK, ft3, pickP, AScope, AAll, pickQ, ftQ, inHeap, tys]
    refine ACallK.strict rfl (cp) (by simp only [SeesL, axs, axt, AS.ev, AS.put, upd, inHeap, Nat.reduceLT, Nat.reduceEqDiff, Nat.reduceAdd, Nat.reduceBEq]; repeat' (first | exact True.intro | exact Sees.sc | exact Sees.none | ((with_reducible refine Sees.same ?_) <;> simp [noIds, noIdsL, noIdsE, noIdsE_U, noIdsE_UU, noIdsE_PR, noIdsE_OL, noIdsE_AL] <;> fail) | (refine Live.sees ?_ ?_ <;> first | assumption | (simp [noIdsE_U, noIdsE_UU, noIdsE_PR, noIdsE_OL, noIdsE_AL] <;> fail)) | (refine Sees.obj ?_ ?_ ?_ <;> first | exact ⟨_, _, by assumption, rfl⟩ | (simp [U_len, UU_len, PR_len, OL_len, AL_len] <;> fail) | (simp [noIdsE_U, noIdsE_UU, noIdsE_PR, noIdsE_OL, noIdsE_AL] <;> fail) | (simp [U, UU, upd] <;> fail) | (simp [U, UU, upd, neS, *] <;> fail)) | (refine Sees.of_seen 3 ?_ <;> simp [seen, upd, noIdsE, noIdsL, noIds, U, UU, Nat.add_assoc] <;> fail) | refine Sees.agg ?_ | refine And.intro ?_ ?_ | simp only [SeesL])) ?_; simp (maxSteps := 400000) (dsimp := false) only [axr, AThen, ABlock, dstsOk, AStep, callsF, AWant, aop, AS.ev, AS.put, upd, AS.bound, abin, aint, aload, astore, cellsAt, AV.cells, alen, elems, AV.int?, FPost, aresL, ares1, pack, afill, splice, Value.oneCell', Nat.reduceLT, Nat.reduceLeDiff, Nat.reduceEqDiff, Nat.reduceAdd, Nat.reduceMul, Nat.reduceSub, Nat.reduceBEq, Int.reduceLE, Int.reduceLT, Int.reduceToNat, Int.reduceNeg, Int.reduceEq, axt, ftK, ft3, pickP, AScope, AAll, pickQ, ftQ, inHeap, tys]
    refine ax_cut (fun s => s.t 0 = .lst 2 (PR m) ∧ s.t 4 = .ptr n 4 0 0 ∧ s.t 5 = .ptr (n + 1) 5 0 0 ∧ s.t 7 = .sc (.int .i64 (idxK m o.key)) ∧ s.t 8 = .sc (.bool (bareB a)) ∧ s.H n = some (.obj 65 4 [[.sc (.int .i64 o.kind), .sc (.int .u64 o.key), .sc (.int .u64 o.val), .sc (.int .i64 o.n)]] false) ∧ s.H (n + 1) = some (.obj 61 5 [[.sc (.bool a.hit), .sc (.int .u64 a.val), .sc (.int .i64 a.n), .lst 2 (PR a.out), .sc (.int .i64 a.err)]] false)) ?_ ?_
    · have hz : a.out = [] ↔ (a.out.length : Int) = 0 := by rw [← List.length_eq_zero_iff]; omega
      cases hh : a.hit with
      | true =>
        have hB : bareB a = false := by simp [bareB, hh]
        simp (maxSteps := 400000) (dsimp := false) only [hB, axs, AThen, ABlock, dstsOk, AStep, callsF, AWant, aop, AS.ev, AS.put, upd, AS.bound, abin, aint, aload, astore, cellsAt, AV.cells, alen, elems, AV.int?, FPost, aresL, ares1, pack, afill, splice, Value.oneCell', Nat.reduceLT, Nat.reduceLeDiff, Nat.reduceEqDiff, Nat.reduceAdd, Nat.reduceMul, Nat.reduceSub, Nat.reduceBEq, Int.reduceLE, Int.reduceLT, Int.reduceToNat, Int.reduceNeg, Int.reduceEq, axt, ftK, ft3, pickP, AScope, AAll, pickQ, ftQ, inHeap, tys]
      | false =>
        by_cases hv : a.val = 0
        · by_cases ho : a.out = []
          · have hB : bareB a = true := by simp [bareB, hh, hv, ho]
            have z := hz.1 ho
            simp (maxSteps := 400000) (dsimp := false) only [hB, hv, PR_len, z, axs, AThen, ABlock, dstsOk, AStep, callsF, AWant, aop, AS.ev, AS.put, upd, AS.bound, abin, aint, aload, astore, cellsAt, AV.cells, alen, elems, AV.int?, FPost, aresL, ares1, pack, afill, splice, Value.oneCell', Nat.reduceLT, Nat.reduceLeDiff, Nat.reduceEqDiff, Nat.reduceAdd, Nat.reduceMul, Nat.reduceSub, Nat.reduceBEq, Int.reduceLE, Int.reduceLT, Int.reduceToNat, Int.reduceNeg, Int.reduceEq, axt, ftK, ft3, pickP, AScope, AAll, pickQ, ftQ, inHeap, tys]
          · have hB : bareB a = false := by simp [bareB, hh, hv, ho]
            have z : ¬ (a.out.length : Int) = 0 := fun h => ho (hz.2 h)
            simp (maxSteps := 400000) (dsimp := false) only [hB, hv, PR_len, z, axs, AThen, ABlock, dstsOk, AStep, callsF, AWant, aop, AS.ev, AS.put, upd, AS.bound, abin, aint, aload, astore, cellsAt, AV.cells, alen, elems, AV.int?, FPost, aresL, ares1, pack, afill, splice, Value.oneCell', Nat.reduceLT, Nat.reduceLeDiff, Nat.reduceEqDiff, Nat.reduceAdd, Nat.reduceMul, Nat.reduceSub, Nat.reduceBEq, Int.reduceLE, Int.reduceLT, Int.reduceToNat, Int.reduceNeg, Int.reduceEq, axt, ftK, ft3, pickP, AScope, AAll, pickQ, ftQ, inHeap, tys]
        · have hB : bareB a = false := by simp [bareB, hh, hv]
          simp (maxSteps := 400000) (dsimp := false) only [hB, hv, axs, AThen, ABlock, dstsOk, AStep, callsF, AWant, aop, AS.ev, AS.put, upd, AS.bound, abin, aint, aload, astore, cellsAt, AV.cells, alen, elems, AV.int?, FPost, aresL, ares1, pack, afill, splice, Value.oneCell', Nat.reduceLT, Nat.reduceLeDiff, Nat.reduceEqDiff, Nat.reduceAdd, Nat.reduceMul, Nat.reduceSub, Nat.reduceBEq, Int.reduceLE, Int.reduceLT, Int.reduceToNat, Int.reduceNeg, Int.reduceEq, axt, ftK, ft3, pickP, AScope, AAll, pickQ, ftQ, inHeap, tys]
    · rintro s ⟨h0, h4, h5, h7, h8, H0, H1⟩
      have hz : a.out = [] ↔ (a.out.length : Int) = 0 := by rw [← List.length_eq_zero_iff]; omega
      by_cases k1 : o.kind = 1
      · skip
        by_cases he : a.err = 0
        · by_cases hn : a.n = 0
          · rcases idxT_cases (fun x => decide (x.1 = o.key)) m with ⟨hk, hq⟩ | ⟨p, x, hk, hx, hxt, hq⟩
            · have hk : idxK m o.key = -1 := hk
              have hvv := valK_miss hq
              have am : ¬ ((-1 : Int) ≥ 0) := by omega
              cases hh : a.hit with
              | true =>
                rw [hk] at h7
                rw [hh] at H1
                have hF : fitsB m o a = false := by simp [fitsB, mayOut, want, is123, hob, outB_nil, k1, hk, hvv, hh, he, hn]
                simp (maxSteps := 400000) (dsimp := false) only [h0, h4, h5, h7, h8, H0, H1, PR_len, k1, am, he, hn, bne_self_eq_false, bne_tf, hF, axs, AThen, ABlock, dstsOk, AStep, callsF, AWant, aop, AS.ev, AS.put, upd, AS.bound, abin, aint, aload, astore, cellsAt, AV.cells, alen, elems, AV.int?, FPost, aresL, ares1, pack, afill, splice, Value.oneCell', Nat.reduceLT, Nat.reduceLeDiff, Nat.reduceEqDiff, Nat.reduceAdd, Nat.reduceMul, Nat.reduceSub, Nat.reduceBEq, Int.reduceLE, Int.reduceLT, Int.reduceToNat, Int.reduceNeg, Int.reduceEq, axt, ftK, ft3, pickP, AScope, AAll, pickQ, ftQ, inHeap, tys]
                exact ⟨_, rfl, Sees.sc⟩
              | false =>
                rw [hk] at h7
                rw [hh] at H1
                by_cases hv : a.val = 0
                · by_cases ho : a.out = []
                  · have z := hz.1 ho
                    have hF : fitsB m o a = true := by simp [fitsB, mayOut, want, is123, hob, outB_nil, k1, hk, hvv, hh, he, hn, hv, ho]
                    simp (maxSteps := 400000) (dsimp := false) only [h0, h4, h5, h7, h8, H0, H1, PR_len, k1, am, he, hn, hv, bne_self_eq_false, eq_true z, hF, axs, AThen, ABlock, dstsOk, AStep, callsF, AWant, aop, AS.ev, AS.put, upd, AS.bound, abin, aint, aload, astore, cellsAt, AV.cells, alen, elems, AV.int?, FPost, aresL, ares1, pack, afill, splice, Value.oneCell', Nat.reduceLT, Nat.reduceLeDiff, Nat.reduceEqDiff, Nat.reduceAdd, Nat.reduceMul, Nat.reduceSub, Nat.reduceBEq, Int.reduceLE, Int.reduceLT, Int.reduceToNat, Int.reduceNeg, Int.reduceEq, axt, ftK, ft3, pickP, AScope, AAll, pickQ, ftQ, inHeap, tys]
                    exact ⟨_, rfl, Sees.sc⟩
                  · have z : ¬ (a.out.length : Int) = 0 := fun h => ho (hz.2 h)
                    have hF : fitsB m o a = false := by simp [fitsB, mayOut, want, is123, hob, outB_nil, k1, hk, hvv, hh, he, hn, hv, ho]
                    simp (maxSteps := 400000) (dsimp := false) only [h0, h4, h5, h7, h8, H0, H1, PR_len, k1, am, he, hn, hv, bne_self_eq_false, z, hF, axs, AThen, ABlock, dstsOk, AStep, callsF, AWant, aop, AS.ev, AS.put, upd, AS.bound, abin, aint, aload, astore, cellsAt, AV.cells, alen, elems, AV.int?, FPost, aresL, ares1, pack, afill, splice, Value.oneCell', Nat.reduceLT, Nat.reduceLeDiff, Nat.reduceEqDiff, Nat.reduceAdd, Nat.reduceMul, Nat.reduceSub, Nat.reduceBEq, Int.reduceLE, Int.reduceLT, Int.reduceToNat, Int.reduceNeg, Int.reduceEq, axt, ftK, ft3, pickP, AScope, AAll, pickQ, ftQ, inHeap, tys]
                    exact ⟨_, rfl, Sees.sc⟩
                · skip
                  have hF : fitsB m o a = false := by simp [fitsB, mayOut, want, is123, hob, outB_nil, k1, hk, hvv, hh, he, hn, hv]
                  simp (maxSteps := 400000) (dsimp := false) only [h0, h4, h5, h7, h8, H0, H1, PR_len, k1, am, he, hn, hv, bne_self_eq_false, hF, axs, AThen, ABlock, dstsOk, AStep, callsF, AWant, aop, AS.ev, AS.put, upd, AS.bound, abin, aint, aload, astore, cellsAt, AV.cells, alen, elems, AV.int?, FPost, aresL, ares1, pack, afill, splice, Value.oneCell', Nat.reduceLT, Nat.reduceLeDiff, Nat.reduceEqDiff, Nat.reduceAdd, Nat.reduceMul, Nat.reduceSub, Nat.reduceBEq, Int.reduceLE, Int.reduceLT, Int.reduceToNat, Int.reduceNeg, Int.reduceEq, axt, ftK, ft3, pickP, AScope, AAll, pickQ, ftQ, inHeap, tys]
                  exact ⟨_, rfl, Sees.sc⟩
            · have hk : idxK m o.key = p := hk
              have hvv := valK_hit hx hxt hq
              have hge : (p : Int) ≥ 0 := by omega
              have hp0 : (0 : Int) ≤ (p : Int) := by omega
              have hpl : (p : Int) < m.length := by have := (List.getElem?_eq_some_iff.1 hx).1; omega
              have hg := PR_get hx
              cases hh : a.hit with
              | false =>
                rw [hk] at h7
                rw [hh] at H1
                have hF : fitsB m o a = false := by simp [fitsB, mayOut, want, is123, hob, outB_nil, k1, hk, hvv, hh, he, hn]
                simp (maxSteps := 400000) (dsimp := false) only [h0, h4, h5, h7, h8, H0, H1, PR_len, k1, hge, he, hn, bne_self_eq_false, bne_ft, hF, axs, AThen, ABlock, dstsOk, AStep, callsF, AWant, aop, AS.ev, AS.put, upd, AS.bound, abin, aint, aload, astore, cellsAt, AV.cells, alen, elems, AV.int?, FPost, aresL, ares1, pack, afill, splice, Value.oneCell', Nat.reduceLT, Nat.reduceLeDiff, Nat.reduceEqDiff, Nat.reduceAdd, Nat.reduceMul, Nat.reduceSub, Nat.reduceBEq, Int.reduceLE, Int.reduceLT, Int.reduceToNat, Int.reduceNeg, Int.reduceEq, axt, ftK, ft3, pickP, AScope, AAll, pickQ, ftQ, inHeap, tys]
                exact ⟨_, rfl, Sees.sc⟩
              | true =>
                rw [hk] at h7
                rw [hh] at H1
                by_cases hv : a.val = x.2
                · by_cases ho : a.out = []
                  · have z := hz.1 ho
                    have hF : fitsB m o a = true := by simp [fitsB, mayOut, want, is123, hob, outB_nil, k1, hk, hvv, hh, he, hn, hv, ho]
                    simp (maxSteps := 400000) (dsimp := false) only [h0, h4, h5, h7, h8, H0, H1, PR_len, k1, hge, hp0, hpl, hg, he, hn, eq_true hv, hv, bne_self_eq_false, eq_true z, hF, axs, AThen, ABlock, dstsOk, AStep, callsF, AWant, aop, AS.ev, AS.put, upd, AS.bound, abin, aint, aload, astore, cellsAt, AV.cells, alen, elems, AV.int?, FPost, aresL, ares1, pack, afill, splice, Value.oneCell', Nat.reduceLT, Nat.reduceLeDiff, Nat.reduceEqDiff, Nat.reduceAdd, Nat.reduceMul, Nat.reduceSub, Nat.reduceBEq, Int.reduceLE, Int.reduceLT, Int.reduceToNat, Int.reduceNeg, Int.reduceEq, axt, ftK, ft3, pickP, AScope, AAll, pickQ, ftQ, inHeap, tys]
                    refine ADraw.planR [] [(0, true), (1, true), (2, true), (3, true), (4, true), (5, true), (6, true), (7, true), (8, true), (9, true), (10, true), (11, true), (12, true), (13, true), (14, true)] [(0, false), (0, false), (0, false), (0, false), (0, false), (0, false), (0, false), (0, false), (0, false), (0, false), (0, false), (0, false), (0, false), (0, false), (0, false)] mixed (by kernel_rfl) (by kernel_rfl) ?_
                    simp (maxSteps := 400000) (dsimp := false) only [h0, h4, h5, h7, h8, H0, H1, PR_len, k1, hge, hp0, hpl, hg, he, hn, eq_true hv, hv, bne_self_eq_false, eq_true z, hF, axs, AThen, ABlock, dstsOk, AStep, callsF, AWant, aop, AS.ev, AS.put, upd, AS.bound, abin, aint, aload, astore, cellsAt, AV.cells, alen, elems, AV.int?, FPost, aresL, ares1, pack, afill, splice, Value.oneCell', Nat.reduceLT, Nat.reduceLeDiff, Nat.reduceEqDiff, Nat.reduceAdd, Nat.reduceMul, Nat.reduceSub, Nat.reduceBEq, Int.reduceLE, Int.reduceLT, Int.reduceToNat, Int.reduceNeg, Int.reduceEq, axt, ftK, ft3, pickP, AScope, AAll, pickQ, ftQ, inHeap, tys]
                    exact ⟨_, rfl, Sees.sc⟩
                  · have z : ¬ (a.out.length : Int) = 0 := fun h => ho (hz.2 h)
                    have hF : fitsB m o a = false := by simp [fitsB, mayOut, want, is123, hob, outB_nil, k1, hk, hvv, hh, he, hn, hv, ho]
                    simp (maxSteps := 400000) (dsimp := false) only [h0, h4, h5, h7, h8, H0, H1, PR_len, k1, hge, hp0, hpl, hg, he, hn, eq_true hv, hv, bne_self_eq_false, z, hF, axs, AThen, ABlock, dstsOk, AStep, callsF, AWant, aop, AS.ev, AS.put, upd, AS.bound, abin, aint, aload, astore, cellsAt, AV.cells, alen, elems, AV.int?, FPost, aresL, ares1, pack, afill, splice, Value.oneCell', Nat.reduceLT, Nat.reduceLeDiff, Nat.reduceEqDiff, Nat.reduceAdd, Nat.reduceMul, Nat.reduceSub, Nat.reduceBEq, Int.reduceLE, Int.reduceLT, Int.reduceToNat, Int.reduceNeg, Int.reduceEq, axt, ftK, ft3, pickP, AScope, AAll, pickQ, ftQ, inHeap, tys]
                    refine ADraw.planR [] [(0, true), (1, true), (2, true), (3, true), (4, true), (5, true), (6, true), (7, true), (8, true), (9, true), (10, true), (11, true), (12, true), (13, true), (14, true)] [(0, false), (0, false), (0, false), (0, false), (0, false), (0, false), (0, false), (0, false), (0, false), (0, false), (0, false), (0, false), (0, false), (0, false), (0, false)] mixed (by kernel_rfl) (by kernel_rfl) ?_
                    simp (maxSteps := 400000) (dsimp := false) only [h0, h4, h5, h7, h8, H0, H1, PR_len, k1, hge, hp0, hpl, hg, he, hn, eq_true hv, hv, bne_self_eq_false, z, hF, axs, AThen, ABlock, dstsOk, AStep, callsF, AWant, aop, AS.ev, AS.put, upd, AS.bound, abin, aint, aload, astore, cellsAt, AV.cells, alen, elems, AV.int?, FPost, aresL, ares1, pack, afill, splice, Value.oneCell', Nat.reduceLT, Nat.reduceLeDiff, Nat.reduceEqDiff, Nat.reduceAdd, Nat.reduceMul, Nat.reduceSub, Nat.reduceBEq, Int.reduceLE, Int.reduceLT, Int.reduceToNat, Int.reduceNeg, Int.reduceEq, axt, ftK, ft3, pickP, AScope, AAll, pickQ, ftQ, inHeap, tys]
                    exact ⟨_, rfl, Sees.sc⟩
                · skip
                  have hF : fitsB m o a = false := by simp [fitsB, mayOut, want, is123, hob, outB_nil, k1, hk, hvv, hh, he, hn, hv]
                  simp (maxSteps := 400000) (dsimp := false) only [h0, h4, h5, h7, h8, H0, H1, PR_len, k1, hge, hp0, hpl, hg, he, hn, hv, bne_self_eq_false, hF, axs, AThen, ABlock, dstsOk, AStep, callsF, AWant, aop, AS.ev, AS.put, upd, AS.bound, abin, aint, aload, astore, cellsAt, AV.cells, alen, elems, AV.int?, FPost, aresL, ares1, pack, afill, splice, Value.oneCell', Nat.reduceLT, Nat.reduceLeDiff, Nat.reduceEqDiff, Nat.reduceAdd, Nat.reduceMul, Nat.reduceSub, Nat.reduceBEq, Int.reduceLE, Int.reduceLT, Int.reduceToNat, Int.reduceNeg, Int.reduceEq, axt, ftK, ft3, pickP, AScope, AAll, pickQ, ftQ, inHeap, tys]
                  refine ADraw.planR [] [(0, true), (1, true), (2, true), (3, true), (4, true), (5, true), (6, true), (7, true), (8, true), (9, true), (10, true), (11, true), (12, true), (13, true), (14, true)] [(0, false), (0, false), (0, false), (0, false), (0, false), (0, false), (0, false), (0, false), (0, false), (0, false), (0, false), (0, false), (0, false), (0, false), (0, false)] mixed (by kernel_rfl) (by kernel_rfl) ?_
                  simp (maxSteps := 400000) (dsimp := false) only [h0, h4, h5, h7, h8, H0, H1, PR_len, k1, hge, hp0, hpl, hg, he, hn, hv, bne_self_eq_false, hF, axs, AThen, ABlock, dstsOk, AStep, callsF, AWant, aop, AS.ev, AS.put, upd, AS.bound, abin, aint, aload, astore, cellsAt, AV.cells, alen, elems, AV.int?, FPost, aresL, ares1, pack, afill, splice, Value.oneCell', Nat.reduceLT, Nat.reduceLeDiff, Nat.reduceEqDiff, Nat.reduceAdd, Nat.reduceMul, Nat.reduceSub, Nat.reduceBEq, Int.reduceLE, Int.reduceLT, Int.reduceToNat, Int.reduceNeg, Int.reduceEq, axt, ftK, ft3, pickP, AScope, AAll, pickQ, ftQ, inHeap, tys]
                  exact ⟨_, rfl, Sees.sc⟩
          · skip
            have hF : fitsB m o a = false := by simp [fitsB, mayOut, want, is123, hob, outB_nil, k1, he, hn]
            simp (maxSteps := 400000) (dsimp := false) only [h0, h4, h5, h7, h8, H0, H1, PR_len, k1, he, hn, bne_self_eq_false, hF, axs, AThen, ABlock, dstsOk, AStep, callsF, AWant, aop, AS.ev, AS.put, upd, AS.bound, abin, aint, aload, astore, cellsAt, AV.cells, alen, elems, AV.int?, FPost, aresL, ares1, pack, afill, splice, Value.oneCell', Nat.reduceLT, Nat.reduceLeDiff, Nat.reduceEqDiff, Nat.reduceAdd, Nat.reduceMul, Nat.reduceSub, Nat.reduceBEq, Int.reduceLE, Int.reduceLT, Int.reduceToNat, Int.reduceNeg, Int.reduceEq, axt, ftK, ft3, pickP, AScope, AAll, pickQ, ftQ, inHeap, tys]
            exact ⟨_, rfl, Sees.sc⟩
        · skip
          have hF : fitsB m o a = false := by simp [fitsB, mayOut, want, is123, hob, outB_nil, k1, he]
          simp (maxSteps := 400000) (dsimp := false) only [h0, h4, h5, h7, h8, H0, H1, PR_len, k1, he, hF, axs, AThen, ABlock, dstsOk, AStep, callsF, AWant, aop, AS.ev, AS.put, upd, AS.bound, abin, aint, aload, astore, cellsAt, AV.cells, alen, elems, AV.int?, FPost, aresL, ares1, pack, afill, splice, Value.oneCell', Nat.reduceLT, Nat.reduceLeDiff, Nat.reduceEqDiff, Nat.reduceAdd, Nat.reduceMul, Nat.reduceSub, Nat.reduceBEq, Int.reduceLE, Int.reduceLT, Int.reduceToNat, Int.reduceNeg, Int.reduceEq, axt, ftK, ft3, pickP, AScope, AAll, pickQ, ftQ, inHeap, tys]
          exact ⟨_, rfl, Sees.sc⟩
      ·
        by_cases k2 : o.kind = 2
        · skip
          by_cases he : a.err = 0
          · by_cases hn : a.n = 0
            · rcases idxT_cases (fun x => decide (x.1 = o.key)) m with ⟨hk, hq⟩ | ⟨p, x, hk, hx, hxt, hq⟩
              · have hk : idxK m o.key = -1 := hk
                have hvv := valK_miss hq
                have am : ¬ ((-1 : Int) ≥ 0) := by omega
                cases hh : a.hit with
                | true =>
                  rw [hk] at h7
                  rw [hh] at H1
                  have hF : fitsB m o a = false := by simp [fitsB, mayOut, want, is123, hob, outB_nil, k2, hk, hvv, hh, he, hn]
                  simp (maxSteps := 400000) (dsimp := false) only [h0, h4, h5, h7, h8, H0, H1, PR_len, k2, am, he, hn, bne_self_eq_false, bne_tf, hF, axs, AThen, ABlock, dstsOk, AStep, callsF, AWant, aop, AS.ev, AS.put, upd, AS.bound, abin, aint, aload, astore, cellsAt, AV.cells, alen, elems, AV.int?, FPost, aresL, ares1, pack, afill, splice, Value.oneCell', Nat.reduceLT, Nat.reduceLeDiff, Nat.reduceEqDiff, Nat.reduceAdd, Nat.reduceMul, Nat.reduceSub, Nat.reduceBEq, Int.reduceLE, Int.reduceLT, Int.reduceToNat, Int.reduceNeg, Int.reduceEq, axt, ftK, ft3, pickP, AScope, AAll, pickQ, ftQ, inHeap, tys]
                  exact ⟨_, rfl, Sees.sc⟩
                | false =>
                  rw [hk] at h7
                  rw [hh] at H1
                  by_cases hv : a.val = 0
                  · skip
                    have hF : fitsB m o a = true := by simp [fitsB, mayOut, want, is123, hob, outB_nil, k2, hk, hvv, hh, he, hn, hv]
                    simp (maxSteps := 400000) (dsimp := false) only [h0, h4, h5, h7, h8, H0, H1, PR_len, k2, am, he, hn, hv, bne_self_eq_false, hF, axs, AThen, ABlock, dstsOk, AStep, callsF, AWant, aop, AS.ev, AS.put, upd, AS.bound, abin, aint, aload, astore, cellsAt, AV.cells, alen, elems, AV.int?, FPost, aresL, ares1, pack, afill, splice, Value.oneCell', Nat.reduceLT, Nat.reduceLeDiff, Nat.reduceEqDiff, Nat.reduceAdd, Nat.reduceMul, Nat.reduceSub, Nat.reduceBEq, Int.reduceLE, Int.reduceLT, Int.reduceToNat, Int.reduceNeg, Int.reduceEq, axt, ftK, ft3, pickP, AScope, AAll, pickQ, ftQ, inHeap, tys]
                    exact ⟨_, rfl, Sees.sc⟩
                  · skip
                    have hF : fitsB m o a = false := by simp [fitsB, mayOut, want, is123, hob, outB_nil, k2, hk, hvv, hh, he, hn, hv]
                    simp (maxSteps := 400000) (dsimp := false) only [h0, h4, h5, h7, h8, H0, H1, PR_len, k2, am, he, hn, hv, bne_self_eq_false, hF, axs, AThen, ABlock, dstsOk, AStep, callsF, AWant, aop, AS.ev, AS.put, upd, AS.bound, abin, aint, aload, astore, cellsAt, AV.cells, alen, elems, AV.int?, FPost, aresL, ares1, pack, afill, splice, Value.oneCell', Nat.reduceLT, Nat.reduceLeDiff, Nat.reduceEqDiff, Nat.reduceAdd, Nat.reduceMul, Nat.reduceSub, Nat.reduceBEq, Int.reduceLE, Int.reduceLT, Int.reduceToNat, Int.reduceNeg, Int.reduceEq, axt, ftK, ft3, pickP, AScope, AAll, pickQ, ftQ, inHeap, tys]
                    exact ⟨_, rfl, Sees.sc⟩
              · have hk : idxK m o.key = p := hk
                have hvv := valK_hit hx hxt hq
                have hge : (p : Int) ≥ 0 := by omega
                have hp0 : (0 : Int) ≤ (p : Int) := by omega
                have hpl : (p : Int) < m.length := by have := (List.getElem?_eq_some_iff.1 hx).1; omega
                have hg := PR_get hx
                cases hh : a.hit with
                | false =>
                  rw [hk] at h7
                  rw [hh] at H1
                  have hF : fitsB m o a = false := by simp [fitsB, mayOut, want, is123, hob, outB_nil, k2, hk, hvv, hh, he, hn]
                  simp (maxSteps := 400000) (dsimp := false) only [h0, h4, h5, h7, h8, H0, H1, PR_len, k2, hge, he, hn, bne_self_eq_false, bne_ft, hF, axs, AThen, ABlock, dstsOk, AStep, callsF, AWant, aop, AS.ev, AS.put, upd, AS.bound, abin, aint, aload, astore, cellsAt, AV.cells, alen, elems, AV.int?, FPost, aresL, ares1, pack, afill, splice, Value.oneCell', Nat.reduceLT, Nat.reduceLeDiff, Nat.reduceEqDiff, Nat.reduceAdd, Nat.reduceMul, Nat.reduceSub, Nat.reduceBEq, Int.reduceLE, Int.reduceLT, Int.reduceToNat, Int.reduceNeg, Int.reduceEq, axt, ftK, ft3, pickP, AScope, AAll, pickQ, ftQ, inHeap, tys]
                  exact ⟨_, rfl, Sees.sc⟩
                | true =>
                  rw [hk] at h7
                  rw [hh] at H1
                  by_cases hv : a.val = x.2
                  · by_cases ho : a.out = []
                    · have z := hz.1 ho
                      have hF : fitsB m o a = true := by simp [fitsB, mayOut, want, is123, hob, outB_nil, k2, hk, hvv, hh, he, hn, hv, ho]
                      simp (maxSteps := 400000) (dsimp := false) only [h0, h4, h5, h7, h8, H0, H1, PR_len, k2, hge, hp0, hpl, hg, he, hn, eq_true hv, hv, bne_self_eq_false, eq_true z, hF, axs, AThen, ABlock, dstsOk, AStep, callsF, AWant, aop, AS.ev, AS.put, upd, AS.bound, abin, aint, aload, astore, cellsAt, AV.cells, alen, elems, AV.int?, FPost, aresL, ares1, pack, afill, splice, Value.oneCell', Nat.reduceLT, Nat.reduceLeDiff, Nat.reduceEqDiff, Nat.reduceAdd, Nat.reduceMul, Nat.reduceSub, Nat.reduceBEq, Int.reduceLE, Int.reduceLT, Int.reduceToNat, Int.reduceNeg, Int.reduceEq, axt, ftK, ft3, pickP, AScope, AAll, pickQ, ftQ, inHeap, tys]
                      refine ADraw.planR [] [(0, true), (1, true), (2, true), (3, true), (4, true), (5, true), (6, true), (7, true), (8, true), (9, true), (10, true), (11, true), (12, true), (13, true), (14, true)] [(0, false), (0, false), (0, false), (0, false), (0, false), (0, false), (0, false), (0, false), (0, false), (0, false), (0, false), (0, false), (0, false), (0, false), (0, false)] mixed (by kernel_rfl) (by kernel_rfl) ?_
                      simp (maxSteps := 400000) (dsimp := false) only [h0, h4, h5, h7, h8, H0, H1, PR_len, k2, hge, hp0, hpl, hg, he, hn, eq_true hv, hv, bne_self_eq_false, eq_true z, hF, axs, AThen, ABlock, dstsOk, AStep, callsF, AWant, aop, AS.ev, AS.put, upd, AS.bound, abin, aint, aload, astore, cellsAt, AV.cells, alen, elems, AV.int?, FPost, aresL, ares1, pack, afill, splice, Value.oneCell', Nat.reduceLT, Nat.reduceLeDiff, Nat.reduceEqDiff, Nat.reduceAdd, Nat.reduceMul, Nat.reduceSub, Nat.reduceBEq, Int.reduceLE, Int.reduceLT, Int.reduceToNat, Int.reduceNeg, Int.reduceEq, axt, ftK, ft3, pickP, AScope, AAll, pickQ, ftQ, inHeap, tys]
                      exact ⟨_, rfl, Sees.sc⟩
                    · have z : ¬ (a.out.length : Int) = 0 := fun h => ho (hz.2 h)
                      have hF : fitsB m o a = false := by simp [fitsB, mayOut, want, is123, hob, outB_nil, k2, hk, hvv, hh, he, hn, hv, ho]
                      simp (maxSteps := 400000) (dsimp := false) only [h0, h4, h5, h7, h8, H0, H1, PR_len, k2, hge, hp0, hpl, hg, he, hn, eq_true hv, hv, bne_self_eq_false, z, hF, axs, AThen, ABlock, dstsOk, AStep, callsF, AWant, aop, AS.ev, AS.put, upd, AS.bound, abin, aint, aload, astore, cellsAt, AV.cells, alen, elems, AV.int?, FPost, aresL, ares1, pack, afill, splice, Value.oneCell', Nat.reduceLT, Nat.reduceLeDiff, Nat.reduceEqDiff, Nat.reduceAdd, Nat.reduceMul, Nat.reduceSub, Nat.reduceBEq, Int.reduceLE, Int.reduceLT, Int.reduceToNat, Int.reduceNeg, Int.reduceEq, axt, ftK, ft3, pickP, AScope, AAll, pickQ, ftQ, inHeap, tys]
                      refine ADraw.planR [] [(0, true), (1, true), (2, true), (3, true), (4, true), (5, true), (6, true), (7, true), (8, true), (9, true), (10, true), (11, true), (12, true), (13, true), (14, true)] [(0, false), (0, false), (0, false), (0, false), (0, false), (0, false), (0, false), (0, false), (0, false), (0, false), (0, false), (0, false), (0, false), (0, false), (0, false)] mixed (by kernel_rfl) (by kernel_rfl) ?_
                      simp (maxSteps := 400000) (dsimp := false) only [h0, h4, h5, h7, h8, H0, H1, PR_len, k2, hge, hp0, hpl, hg, he, hn, eq_true hv, hv, bne_self_eq_false, z, hF, axs, AThen, ABlock, dstsOk, AStep, callsF, AWant, aop, AS.ev, AS.put, upd, AS.bound, abin, aint, aload, astore, cellsAt, AV.cells, alen, elems, AV.int?, FPost, aresL, ares1, pack, afill, splice, Value.oneCell', Nat.reduceLT, Nat.reduceLeDiff, Nat.reduceEqDiff, Nat.reduceAdd, Nat.reduceMul, Nat.reduceSub, Nat.reduceBEq, Int.reduceLE, Int.reduceLT, Int.reduceToNat, Int.reduceNeg, Int.reduceEq, axt, ftK, ft3, pickP, AScope, AAll, pickQ, ftQ, inHeap, tys]
                      exact ⟨_, rfl, Sees.sc⟩
                  · skip
                    have hF : fitsB m o a = false := by simp [fitsB, mayOut, want, is123, hob, outB_nil, k2, hk, hvv, hh, he, hn, hv]
                    simp (maxSteps := 400000) (dsimp := false) only [h0, h4, h5, h7, h8, H0, H1, PR_len, k2, hge, hp0, hpl, hg, he, hn, hv, bne_self_eq_false, hF, axs, AThen, ABlock, dstsOk, AStep, callsF, AWant, aop, AS.ev, AS.put, upd, AS.bound, abin, aint, aload, astore, cellsAt, AV.cells, alen, elems, AV.int?, FPost, aresL, ares1, pack, afill, splice, Value.oneCell', Nat.reduceLT, Nat.reduceLeDiff, Nat.reduceEqDiff, Nat.reduceAdd, Nat.reduceMul, Nat.reduceSub, Nat.reduceBEq, Int.reduceLE, Int.reduceLT, Int.reduceToNat, Int.reduceNeg, Int.reduceEq, axt, ftK, ft3, pickP, AScope, AAll, pickQ, ftQ, inHeap, tys]
                    refine ADraw.planR [] [(0, true), (1, true), (2, true), (3, true), (4, true), (5, true), (6, true), (7, true), (8, true), (9, true), (10, true), (11, true), (12, true), (13, true), (14, true)] [(0, false), (0, false), (0, false), (0, false), (0, false), (0, false), (0, false), (0, false), (0, false), (0, false), (0, false), (0, false), (0, false), (0, false), (0, false)] mixed (by kernel_rfl) (by kernel_rfl) ?_
                    simp (maxSteps := 400000) (dsimp := false) only [h0, h4, h5, h7, h8, H0, H1, PR_len, k2, hge, hp0, hpl, hg, he, hn, hv, bne_self_eq_false, hF, axs, AThen, ABlock, dstsOk, AStep, callsF, AWant, aop, AS.ev, AS.put, upd, AS.bound, abin, aint, aload, astore, cellsAt, AV.cells, alen, elems, AV.int?, FPost, aresL, ares1, pack, afill, splice, Value.oneCell', Nat.reduceLT, Nat.reduceLeDiff, Nat.reduceEqDiff, Nat.reduceAdd, Nat.reduceMul, Nat.reduceSub, Nat.reduceBEq, Int.reduceLE, Int.reduceLT, Int.reduceToNat, Int.reduceNeg, Int.reduceEq, axt, ftK, ft3, pickP, AScope, AAll, pickQ, ftQ, inHeap, tys]
                    exact ⟨_, rfl, Sees.sc⟩
            · skip
              have hF : fitsB m o a = false := by simp [fitsB, mayOut, want, is123, hob, outB_nil, k2, he, hn]
              simp (maxSteps := 400000) (dsimp := false) only [h0, h4, h5, h7, h8, H0, H1, PR_len, k2, he, hn, bne_self_eq_false, hF, axs, AThen, ABlock, dstsOk, AStep, callsF, AWant, aop, AS.ev, AS.put, upd, AS.bound, abin, aint, aload, astore, cellsAt, AV.cells, alen, elems, AV.int?, FPost, aresL, ares1, pack, afill, splice, Value.oneCell', Nat.reduceLT, Nat.reduceLeDiff, Nat.reduceEqDiff, Nat.reduceAdd, Nat.reduceMul, Nat.reduceSub, Nat.reduceBEq, Int.reduceLE, Int.reduceLT, Int.reduceToNat, Int.reduceNeg, Int.reduceEq, axt, ftK, ft3, pickP, AScope, AAll, pickQ, ftQ, inHeap, tys]
              exact ⟨_, rfl, Sees.sc⟩
          · skip
            have hF : fitsB m o a = false := by simp [fitsB, mayOut, want, is123, hob, outB_nil, k2, he]
            simp (maxSteps := 400000) (dsimp := false) only [h0, h4, h5, h7, h8, H0, H1, PR_len, k2, he, hF, axs, AThen, ABlock, dstsOk, AStep, callsF, AWant, aop, AS.ev, AS.put, upd, AS.bound, abin, aint, aload, astore, cellsAt, AV.cells, alen, elems, AV.int?, FPost, aresL, ares1, pack, afill, splice, Value.oneCell', Nat.reduceLT, Nat.reduceLeDiff, Nat.reduceEqDiff, Nat.reduceAdd, Nat.reduceMul, Nat.reduceSub, Nat.reduceBEq, Int.reduceLE, Int.reduceLT, Int.reduceToNat, Int.reduceNeg, Int.reduceEq, axt, ftK, ft3, pickP, AScope, AAll, pickQ, ftQ, inHeap, tys]
            exact ⟨_, rfl, Sees.sc⟩
        ·
          by_cases k3 : o.kind = 3
          · skip
            by_cases he : a.err = 0
            · by_cases hn : a.n = 0
              · rcases idxT_cases (fun x => decide (x.1 = o.key)) m with ⟨hk, hq⟩ | ⟨p, x, hk, hx, hxt, hq⟩
                · have hk : idxK m o.key = -1 := hk
                  have hvv := valK_miss hq
                  have am : ¬ ((-1 : Int) ≥ 0) := by omega
                  cases hh : a.hit with
                  | true =>
                    rw [hk] at h7
                    rw [hh] at H1
                    have hF : fitsB m o a = false := by simp [fitsB, mayOut, want, is123, hob, outB_nil, k3, hk, hvv, hh, he, hn]
                    simp (maxSteps := 400000) (dsimp := false) only [h0, h4, h5, h7, h8, H0, H1, PR_len, k3, am, he, hn, bne_self_eq_false, bne_tf, hF, axs, AThen, ABlock, dstsOk, AStep, callsF, AWant, aop, AS.ev, AS.put, upd, AS.bound, abin, aint, aload, astore, cellsAt, AV.cells, alen, elems, AV.int?, FPost, aresL, ares1, pack, afill, splice, Value.oneCell', Nat.reduceLT, Nat.reduceLeDiff, Nat.reduceEqDiff, Nat.reduceAdd, Nat.reduceMul, Nat.reduceSub, Nat.reduceBEq, Int.reduceLE, Int.reduceLT, Int.reduceToNat, Int.reduceNeg, Int.reduceEq, axt, ftK, ft3, pickP, AScope, AAll, pickQ, ftQ, inHeap, tys]
                    exact ⟨_, rfl, Sees.sc⟩
                  | false =>
                    rw [hk] at h7
                    rw [hh] at H1
                    by_cases hv : a.val = 0
                    · by_cases ho : a.out = []
                      · have z := hz.1 ho
                        have hF : fitsB m o a = true := by simp [fitsB, mayOut, want, is123, hob, outB_nil, k3, hk, hvv, hh, he, hn, hv, ho]
                        simp (maxSteps := 400000) (dsimp := false) only [h0, h4, h5, h7, h8, H0, H1, PR_len, k3, am, he, hn, hv, bne_self_eq_false, eq_true z, hF, axs, AThen, ABlock, dstsOk, AStep, callsF, AWant, aop, AS.ev, AS.put, upd, AS.bound, abin, aint, aload, astore, cellsAt, AV.cells, alen, elems, AV.int?, FPost, aresL, ares1, pack, afill, splice, Value.oneCell', Nat.reduceLT, Nat.reduceLeDiff, Nat.reduceEqDiff, Nat.reduceAdd, Nat.reduceMul, Nat.reduceSub, Nat.reduceBEq, Int.reduceLE, Int.reduceLT, Int.reduceToNat, Int.reduceNeg, Int.reduceEq, axt, ftK, ft3, pickP, AScope, AAll, pickQ, ftQ, inHeap, tys]
                        exact ⟨_, rfl, Sees.sc⟩
                      · have z : ¬ (a.out.length : Int) = 0 := fun h => ho (hz.2 h)
                        have hF : fitsB m o a = false := by simp [fitsB, mayOut, want, is123, hob, outB_nil, k3, hk, hvv, hh, he, hn, hv, ho]
                        simp (maxSteps := 400000) (dsimp := false) only [h0, h4, h5, h7, h8, H0, H1, PR_len, k3, am, he, hn, hv, bne_self_eq_false, z, hF, axs, AThen, ABlock, dstsOk, AStep, callsF, AWant, aop, AS.ev, AS.put, upd, AS.bound, abin, aint, aload, astore, cellsAt, AV.cells, alen, elems, AV.int?, FPost, aresL, ares1, pack, afill, splice, Value.oneCell', Nat.reduceLT, Nat.reduceLeDiff, Nat.reduceEqDiff, Nat.reduceAdd, Nat.reduceMul, Nat.reduceSub, Nat.reduceBEq, Int.reduceLE, Int.reduceLT, Int.reduceToNat, Int.reduceNeg, Int.reduceEq, axt, ftK, ft3, pickP, AScope, AAll, pickQ, ftQ, inHeap, tys]
                        exact ⟨_, rfl, Sees.sc⟩
                    · skip
                      have hF : fitsB m o a = false := by simp [fitsB, mayOut, want, is123, hob, outB_nil, k3, hk, hvv, hh, he, hn, hv]
                      simp (maxSteps := 400000) (dsimp := false) only [h0, h4, h5, h7, h8, H0, H1, PR_len, k3, am, he, hn, hv, bne_self_eq_false, hF, axs, AThen, ABlock, dstsOk, AStep, callsF, AWant, aop, AS.ev, AS.put, upd, AS.bound, abin, aint, aload, astore, cellsAt, AV.cells, alen, elems, AV.int?, FPost, aresL, ares1, pack, afill, splice, Value.oneCell', Nat.reduceLT, Nat.reduceLeDiff, Nat.reduceEqDiff, Nat.reduceAdd, Nat.reduceMul, Nat.reduceSub, Nat.reduceBEq, Int.reduceLE, Int.reduceLT, Int.reduceToNat, Int.reduceNeg, Int.reduceEq, axt, ftK, ft3, pickP, AScope, AAll, pickQ, ftQ, inHeap, tys]
                      exact ⟨_, rfl, Sees.sc⟩
                · have hk : idxK m o.key = p := hk
                  have hvv := valK_hit hx hxt hq
                  have hge : (p : Int) ≥ 0 := by omega
                  have hp0 : (0 : Int) ≤ (p : Int) := by omega
                  have hpl : (p : Int) < m.length := by have := (List.getElem?_eq_some_iff.1 hx).1; omega
                  have hg := PR_get hx
                  cases hh : a.hit with
                  | false =>
                    rw [hk] at h7
                    rw [hh] at H1
                    have hF : fitsB m o a = false := by simp [fitsB, mayOut, want, is123, hob, outB_nil, k3, hk, hvv, hh, he, hn]
                    simp (maxSteps := 400000) (dsimp := false) only [h0, h4, h5, h7, h8, H0, H1, PR_len, k3, hge, he, hn, bne_self_eq_false, bne_ft, hF, axs, AThen, ABlock, dstsOk, AStep, callsF, AWant, aop, AS.ev, AS.put, upd, AS.bound, abin, aint, aload, astore, cellsAt, AV.cells, alen, elems, AV.int?, FPost, aresL, ares1, pack, afill, splice, Value.oneCell', Nat.reduceLT, Nat.reduceLeDiff, Nat.reduceEqDiff, Nat.reduceAdd, Nat.reduceMul, Nat.reduceSub, Nat.reduceBEq, Int.reduceLE, Int.reduceLT, Int.reduceToNat, Int.reduceNeg, Int.reduceEq, axt, ftK, ft3, pickP, AScope, AAll, pickQ, ftQ, inHeap, tys]
                    exact ⟨_, rfl, Sees.sc⟩
                  | true =>
                    rw [hk] at h7
                    rw [hh] at H1
                    by_cases hv : a.val = x.2
                    · by_cases ho : a.out = []
                      · have z := hz.1 ho
                        have hF : fitsB m o a = true := by simp [fitsB, mayOut, want, is123, hob, outB_nil, k3, hk, hvv, hh, he, hn, hv, ho]
                        simp (maxSteps := 400000) (dsimp := false) only [h0, h4, h5, h7, h8, H0, H1, PR_len, k3, hge, hp0, hpl, hg, he, hn, eq_true hv, hv, bne_self_eq_false, eq_true z, hF, axs, AThen, ABlock, dstsOk, AStep, callsF, AWant, aop, AS.ev, AS.put, upd, AS.bound, abin, aint, aload, astore, cellsAt, AV.cells, alen, elems, AV.int?, FPost, aresL, ares1, pack, afill, splice, Value.oneCell', Nat.reduceLT, Nat.reduceLeDiff, Nat.reduceEqDiff, Nat.reduceAdd, Nat.reduceMul, Nat.reduceSub, Nat.reduceBEq, Int.reduceLE, Int.reduceLT, Int.reduceToNat, Int.reduceNeg, Int.reduceEq, axt, ftK, ft3, pickP, AScope, AAll, pickQ, ftQ, inHeap, tys]
                        refine ADraw.planR [] [(0, true), (1, true), (2, true), (3, true), (4, true), (5, true), (6, true), (7, true), (8, true), (9, true), (10, true), (11, true), (12, true), (13, true), (14, true)] [(0, false), (0, false), (0, false), (0, false), (0, false), (0, false), (0, false), (0, false), (0, false), (0, false), (0, false), (0, false), (0, false), (0, false), (0, false)] mixed (by kernel_rfl) (by kernel_rfl) ?_
                        simp (maxSteps := 400000) (dsimp := false) only [h0, h4, h5, h7, h8, H0, H1, PR_len, k3, hge, hp0, hpl, hg, he, hn, eq_true hv, hv, bne_self_eq_false, eq_true z, hF, axs, AThen, ABlock, dstsOk, AStep, callsF, AWant, aop, AS.ev, AS.put, upd, AS.bound, abin, aint, aload, astore, cellsAt, AV.cells, alen, elems, AV.int?, FPost, aresL, ares1, pack, afill, splice, Value.oneCell', Nat.reduceLT, Nat.reduceLeDiff, Nat.reduceEqDiff, Nat.reduceAdd, Nat.reduceMul, Nat.reduceSub, Nat.reduceBEq, Int.reduceLE, Int.reduceLT, Int.reduceToNat, Int.reduceNeg, Int.reduceEq, axt, ftK, ft3, pickP, AScope, AAll, pickQ, ftQ, inHeap, tys]
                        exact ⟨_, rfl, Sees.sc⟩
                      · have z : ¬ (a.out.length : Int) = 0 := fun h => ho (hz.2 h)
                        have hF : fitsB m o a = false := by simp [fitsB, mayOut, want, is123, hob, outB_nil, k3, hk, hvv, hh, he, hn, hv, ho]
                        simp (maxSteps := 400000) (dsimp := false) only [h0, h4, h5, h7, h8, H0, H1, PR_len, k3, hge, hp0, hpl, hg, he, hn, eq_true hv, hv, bne_self_eq_false, z, hF, axs, AThen, ABlock, dstsOk, AStep, callsF, AWant, aop, AS.ev, AS.put, upd, AS.bound, abin, aint, aload, astore, cellsAt, AV.cells, alen, elems, AV.int?, FPost, aresL, ares1, pack, afill, splice, Value.oneCell', Nat.reduceLT, Nat.reduceLeDiff, Nat.reduceEqDiff, Nat.reduceAdd, Nat.reduceMul, Nat.reduceSub, Nat.reduceBEq, Int.reduceLE, Int.reduceLT, Int.reduceToNat, Int.reduceNeg, Int.reduceEq, axt, ftK, ft3, pickP, AScope, AAll, pickQ, ftQ, inHeap, tys]
                        refine ADraw.planR [] [(0, true), (1, true), (2, true), (3, true), (4, true), (5, true), (6, true), (7, true), (8, true), (9, true), (10, true), (11, true), (12, true), (13, true), (14, true)] [(0, false), (0, false), (0, false), (0, false), (0, false), (0, false), (0, false), (0, false), (0, false), (0, false), (0, false), (0, false), (0, false), (0, false), (0, false)] mixed (by kernel_rfl) (by kernel_rfl) ?_
                        simp (maxSteps := 400000) (dsimp := false) only [h0, h4, h5, h7, h8, H0, H1, PR_len, k3, hge, hp0, hpl, hg, he, hn, eq_true hv, hv, bne_self_eq_false, z, hF, axs, AThen, ABlock, dstsOk, AStep, callsF, AWant, aop, AS.ev, AS.put, upd, AS.bound, abin, aint, aload, astore, cellsAt, AV.cells, alen, elems, AV.int?, FPost, aresL, ares1, pack, afill, splice, Value.oneCell', Nat.reduceLT, Nat.reduceLeDiff, Nat.reduceEqDiff, Nat.reduceAdd, Nat.reduceMul, Nat.reduceSub, Nat.reduceBEq, Int.reduceLE, Int.reduceLT, Int.reduceToNat, Int.reduceNeg, Int.reduceEq, axt, ftK, ft3, pickP, AScope, AAll, pickQ, ftQ, inHeap, tys]
                        exact ⟨_, rfl, Sees.sc⟩
                    · skip
                      have hF : fitsB m o a = false := by simp [fitsB, mayOut, want, is123, hob, outB_nil, k3, hk, hvv, hh, he, hn, hv]
                      simp (maxSteps := 400000) (dsimp := false) only [h0, h4, h5, h7, h8, H0, H1, PR_len, k3, hge, hp0, hpl, hg, he, hn, hv, bne_self_eq_false, hF, axs, AThen, ABlock, dstsOk, AStep, callsF, AWant, aop, AS.ev, AS.put, upd, AS.bound, abin, aint, aload, astore, cellsAt, AV.cells, alen, elems, AV.int?, FPost, aresL, ares1, pack, afill, splice, Value.oneCell', Nat.reduceLT, Nat.reduceLeDiff, Nat.reduceEqDiff, Nat.reduceAdd, Nat.reduceMul, Nat.reduceSub, Nat.reduceBEq, Int.reduceLE, Int.reduceLT, Int.reduceToNat, Int.reduceNeg, Int.reduceEq, axt, ftK, ft3, pickP, AScope, AAll, pickQ, ftQ, inHeap, tys]
                      refine ADraw.planR [] [(0, true), (1, true), (2, true), (3, true), (4, true), (5, true), (6, true), (7, true), (8, true), (9, true), (10, true), (11, true), (12, true), (13, true), (14, true)] [(0, false), (0, false), (0, false), (0, false), (0, false), (0, false), (0, false), (0, false), (0, false), (0, false), (0, false), (0, false), (0, false), (0, false), (0, false)] mixed (by kernel_rfl) (by kernel_rfl) ?_
                      simp (maxSteps := 400000) (dsimp := false) only [h0, h4, h5, h7, h8, H0, H1, PR_len, k3, hge, hp0, hpl, hg, he, hn, hv, bne_self_eq_false, hF, axs, AThen, ABlock, dstsOk, AStep, callsF, AWant, aop, AS.ev, AS.put, upd, AS.bound, abin, aint, aload, astore, cellsAt, AV.cells, alen, elems, AV.int?, FPost, aresL, ares1, pack, afill, splice, Value.oneCell', Nat.reduceLT, Nat.reduceLeDiff, Nat.reduceEqDiff, Nat.reduceAdd, Nat.reduceMul, Nat.reduceSub, Nat.reduceBEq, Int.reduceLE, Int.reduceLT, Int.reduceToNat, Int.reduceNeg, Int.reduceEq, axt, ftK, ft3, pickP, AScope, AAll, pickQ, ftQ, inHeap, tys]
                      exact ⟨_, rfl, Sees.sc⟩
              · skip
                have hF : fitsB m o a = false := by simp [fitsB, mayOut, want, is123, hob, outB_nil, k3, he, hn]
                simp (maxSteps := 400000) (dsimp := false) only [h0, h4, h5, h7, h8, H0, H1, PR_len, k3, he, hn, bne_self_eq_false, hF, axs, AThen, ABlock, dstsOk, AStep, callsF, AWant, aop, AS.ev, AS.put, upd, AS.bound, abin, aint, aload, astore, cellsAt, AV.cells, alen, elems, AV.int?, FPost, aresL, ares1, pack, afill, splice, Value.oneCell', Nat.reduceLT, Nat.reduceLeDiff, Nat.reduceEqDiff, Nat.reduceAdd, Nat.reduceMul, Nat.reduceSub, Nat.reduceBEq, Int.reduceLE, Int.reduceLT, Int.reduceToNat, Int.reduceNeg, Int.reduceEq, axt, ftK, ft3, pickP, AScope, AAll, pickQ, ftQ, inHeap, tys]
                exact ⟨_, rfl, Sees.sc⟩
            · skip
              have hF : fitsB m o a = false := by simp [fitsB, mayOut, want, is123, hob, outB_nil, k3, he]
              simp (maxSteps := 400000) (dsimp := false) only [h0, h4, h5, h7, h8, H0, H1, PR_len, k3, he, hF, axs, AThen, ABlock, dstsOk, AStep, callsF, AWant, aop, AS.ev, AS.put, upd, AS.bound, abin, aint, aload, astore, cellsAt, AV.cells, alen, elems, AV.int?, FPost, aresL, ares1, pack, afill, splice, Value.oneCell', Nat.reduceLT, Nat.reduceLeDiff, Nat.reduceEqDiff, Nat.reduceAdd, Nat.reduceMul, Nat.reduceSub, Nat.reduceBEq, Int.reduceLE, Int.reduceLT, Int.reduceToNat, Int.reduceNeg, Int.reduceEq, axt, ftK, ft3, pickP, AScope, AAll, pickQ, ftQ, inHeap, tys]
              exact ⟨_, rfl, Sees.sc⟩
          ·
            by_cases k4 : o.kind = 4
            · by_cases he : a.err = 1
              · by_cases hb : bareB a = true
                · obtain ⟨b1, b2, b3⟩ := bare_iff.1 hb
                  rw [hb] at h8
                  by_cases hn : a.n = 0
                  · skip
                    have hF : fitsB m o a = true := by simp [fitsB, mayOut, want, is123, hob, outB_nil, k4, he, b1, b2, b3, hn]
                    simp (maxSteps := 400000) (dsimp := false) only [h0, h4, h5, h7, h8, H0, H1, PR_len, k4, eq_true he, he, hn, hF, axs, AThen, ABlock, dstsOk, AStep, callsF, AWant, aop, AS.ev, AS.put, upd, AS.bound, abin, aint, aload, astore, cellsAt, AV.cells, alen, elems, AV.int?, FPost, aresL, ares1, pack, afill, splice, Value.oneCell', Nat.reduceLT, Nat.reduceLeDiff, Nat.reduceEqDiff, Nat.reduceAdd, Nat.reduceMul, Nat.reduceSub, Nat.reduceBEq, Int.reduceLE, Int.reduceLT, Int.reduceToNat, Int.reduceNeg, Int.reduceEq, axt, ftK, ft3, pickP, AScope, AAll, pickQ, ftQ, inHeap, tys]
                    exact ⟨_, rfl, Sees.sc⟩
                  · skip
                    have hF : fitsB m o a = false := by simp [fitsB, mayOut, want, is123, hob, outB_nil, k4, he, b1, b2, b3, hn]
                    simp (maxSteps := 400000) (dsimp := false) only [h0, h4, h5, h7, h8, H0, H1, PR_len, k4, eq_true he, he, hn, hF, axs, AThen, ABlock, dstsOk, AStep, callsF, AWant, aop, AS.ev, AS.put, upd, AS.bound, abin, aint, aload, astore, cellsAt, AV.cells, alen, elems, AV.int?, FPost, aresL, ares1, pack, afill, splice, Value.oneCell', Nat.reduceLT, Nat.reduceLeDiff, Nat.reduceEqDiff, Nat.reduceAdd, Nat.reduceMul, Nat.reduceSub, Nat.reduceBEq, Int.reduceLE, Int.reduceLT, Int.reduceToNat, Int.reduceNeg, Int.reduceEq, axt, ftK, ft3, pickP, AScope, AAll, pickQ, ftQ, inHeap, tys]
                    exact ⟨_, rfl, Sees.sc⟩
                · have hb2 : bareB a = false := by simpa using hb
                  rw [hb2] at h8
                  have hF : fitsB m o a = false := Bool.eq_false_iff.2 fun h => hb (fits_bare h k1 k2 k3 fun _ => he)
                  simp (maxSteps := 400000) (dsimp := false) only [h0, h4, h5, h7, h8, H0, H1, PR_len, k4, eq_true he, he, hF, axs, AThen, ABlock, dstsOk, AStep, callsF, AWant, aop, AS.ev, AS.put, upd, AS.bound, abin, aint, aload, astore, cellsAt, AV.cells, alen, elems, AV.int?, FPost, aresL, ares1, pack, afill, splice, Value.oneCell', Nat.reduceLT, Nat.reduceLeDiff, Nat.reduceEqDiff, Nat.reduceAdd, Nat.reduceMul, Nat.reduceSub, Nat.reduceBEq, Int.reduceLE, Int.reduceLT, Int.reduceToNat, Int.reduceNeg, Int.reduceEq, axt, ftK, ft3, pickP, AScope, AAll, pickQ, ftQ, inHeap, tys]
                  exact ⟨_, rfl, Sees.sc⟩
              · by_cases he0 : a.err = 0
                · cases hh : a.hit with
                  | true =>
                    rw [hh] at H1
                    have hF : fitsB m o a = false := by simp [fitsB, mayOut, want, is123, hob, outB_nil, k4, he, he0, hh]
                    simp (maxSteps := 400000) (dsimp := false) only [h0, h4, h5, h7, h8, H0, H1, PR_len, k4, eq_false he, he0, hF, axs, AThen, ABlock, dstsOk, AStep, callsF, AWant, aop, AS.ev, AS.put, upd, AS.bound, abin, aint, aload, astore, cellsAt, AV.cells, alen, elems, AV.int?, FPost, aresL, ares1, pack, afill, splice, Value.oneCell', Nat.reduceLT, Nat.reduceLeDiff, Nat.reduceEqDiff, Nat.reduceAdd, Nat.reduceMul, Nat.reduceSub, Nat.reduceBEq, Int.reduceLE, Int.reduceLT, Int.reduceToNat, Int.reduceNeg, Int.reduceEq, axt, ftK, ft3, pickP, AScope, AAll, pickQ, ftQ, inHeap, tys]
                    exact ⟨_, rfl, Sees.sc⟩
                  | false =>
                    rw [hh] at H1
                    by_cases hv : a.val = 0
                    · by_cases hn : a.n = 0
                      · skip
                        have hF : fitsB m o a = true := by simp [fitsB, mayOut, want, is123, hob, outB_nil, k4, he, he0, hh, hv, hn]
                        simp (maxSteps := 400000) (dsimp := false) only [h0, h4, h5, h7, h8, H0, H1, PR_len, k4, he0, hv, hn, hF, axs, AThen, ABlock, dstsOk, AStep, callsF, AWant, aop, AS.ev, AS.put, upd, AS.bound, abin, aint, aload, astore, cellsAt, AV.cells, alen, elems, AV.int?, FPost, aresL, ares1, pack, afill, splice, Value.oneCell', Nat.reduceLT, Nat.reduceLeDiff, Nat.reduceEqDiff, Nat.reduceAdd, Nat.reduceMul, Nat.reduceSub, Nat.reduceBEq, Int.reduceLE, Int.reduceLT, Int.reduceToNat, Int.reduceNeg, Int.reduceEq, axt, ftK, ft3, pickP, AScope, AAll, pickQ, ftQ, inHeap, tys]
                        exact ⟨_, rfl, Sees.sc⟩
                      · skip
                        have hF : fitsB m o a = false := by simp [fitsB, mayOut, want, is123, hob, outB_nil, k4, he, he0, hh, hv, hn]
                        simp (maxSteps := 400000) (dsimp := false) only [h0, h4, h5, h7, h8, H0, H1, PR_len, k4, he0, hv, hn, hF, axs, AThen, ABlock, dstsOk, AStep, callsF, AWant, aop, AS.ev, AS.put, upd, AS.bound, abin, aint, aload, astore, cellsAt, AV.cells, alen, elems, AV.int?, FPost, aresL, ares1, pack, afill, splice, Value.oneCell', Nat.reduceLT, Nat.reduceLeDiff, Nat.reduceEqDiff, Nat.reduceAdd, Nat.reduceMul, Nat.reduceSub, Nat.reduceBEq, Int.reduceLE, Int.reduceLT, Int.reduceToNat, Int.reduceNeg, Int.reduceEq, axt, ftK, ft3, pickP, AScope, AAll, pickQ, ftQ, inHeap, tys]
                        exact ⟨_, rfl, Sees.sc⟩
                    · skip
                      have hF : fitsB m o a = false := by simp [fitsB, mayOut, want, is123, hob, outB_nil, k4, he, he0, hh, hv]
                      simp (maxSteps := 400000) (dsimp := false) only [h0, h4, h5, h7, h8, H0, H1, PR_len, k4, he0, hv, hF, axs, AThen, ABlock, dstsOk, AStep, callsF, AWant, aop, AS.ev, AS.put, upd, AS.bound, abin, aint, aload, astore, cellsAt, AV.cells, alen, elems, AV.int?, FPost, aresL, ares1, pack, afill, splice, Value.oneCell', Nat.reduceLT, Nat.reduceLeDiff, Nat.reduceEqDiff, Nat.reduceAdd, Nat.reduceMul, Nat.reduceSub, Nat.reduceBEq, Int.reduceLE, Int.reduceLT, Int.reduceToNat, Int.reduceNeg, Int.reduceEq, axt, ftK, ft3, pickP, AScope, AAll, pickQ, ftQ, inHeap, tys]
                      exact ⟨_, rfl, Sees.sc⟩
                · skip
                  have hF : fitsB m o a = false := by simp [fitsB, mayOut, want, is123, hob, outB_nil, k4, he, he0]
                  simp (maxSteps := 400000) (dsimp := false) only [h0, h4, h5, h7, h8, H0, H1, PR_len, k4, he, he0, hF, axs, AThen, ABlock, dstsOk, AStep, callsF, AWant, aop, AS.ev, AS.put, upd, AS.bound, abin, aint, aload, astore, cellsAt, AV.cells, alen, elems, AV.int?, FPost, aresL, ares1, pack, afill, splice, Value.oneCell', Nat.reduceLT, Nat.reduceLeDiff, Nat.reduceEqDiff, Nat.reduceAdd, Nat.reduceMul, Nat.reduceSub, Nat.reduceBEq, Int.reduceLE, Int.reduceLT, Int.reduceToNat, Int.reduceNeg, Int.reduceEq, axt, ftK, ft3, pickP, AScope, AAll, pickQ, ftQ, inHeap, tys]
                  exact ⟨_, rfl, Sees.sc⟩
            · skip
              have k4' : o.kind = 4 → a.err = 1 := fun h => absurd h k4
              by_cases hb : bareB a = true
              · obtain ⟨b1, b2, b3⟩ := bare_iff.1 hb
                rw [hb] at h8
                by_cases k5 : o.kind = 5
                · by_cases hn : a.n = m.length
                  · by_cases he : a.err = 0
                    · skip
                      have hF : fitsB m o a = true := by simp [fitsB, mayOut, want, is123, hob, outB_nil, k5, b1, b2, b3, hn, he]
                      simp (maxSteps := 400000) (dsimp := false) only [h0, h4, h5, h7, h8, H0, H1, PR_len, k5, hn, he, hF, axs, AThen, ABlock, dstsOk, AStep, callsF, AWant, aop, AS.ev, AS.put, upd, AS.bound, abin, aint, aload, astore, cellsAt, AV.cells, alen, elems, AV.int?, FPost, aresL, ares1, pack, afill, splice, Value.oneCell', Nat.reduceLT, Nat.reduceLeDiff, Nat.reduceEqDiff, Nat.reduceAdd, Nat.reduceMul, Nat.reduceSub, Nat.reduceBEq, Int.reduceLE, Int.reduceLT, Int.reduceToNat, Int.reduceNeg, Int.reduceEq, axt, ftK, ft3, pickP, AScope, AAll, pickQ, ftQ, inHeap, tys]
                      exact ⟨_, rfl, Sees.sc⟩
                    · skip
                      have hF : fitsB m o a = false := by simp [fitsB, mayOut, want, is123, hob, outB_nil, k5, b1, b2, b3, hn, he]
                      simp (maxSteps := 400000) (dsimp := false) only [h0, h4, h5, h7, h8, H0, H1, PR_len, k5, hn, he, hF, axs, AThen, ABlock, dstsOk, AStep, callsF, AWant, aop, AS.ev, AS.put, upd, AS.bound, abin, aint, aload, astore, cellsAt, AV.cells, alen, elems, AV.int?, FPost, aresL, ares1, pack, afill, splice, Value.oneCell', Nat.reduceLT, Nat.reduceLeDiff, Nat.reduceEqDiff, Nat.reduceAdd, Nat.reduceMul, Nat.reduceSub, Nat.reduceBEq, Int.reduceLE, Int.reduceLT, Int.reduceToNat, Int.reduceNeg, Int.reduceEq, axt, ftK, ft3, pickP, AScope, AAll, pickQ, ftQ, inHeap, tys]
                      exact ⟨_, rfl, Sees.sc⟩
                  · skip
                    have hF : fitsB m o a = false := by simp [fitsB, mayOut, want, is123, hob, outB_nil, k5, b1, b2, b3, hn]
                    simp (maxSteps := 400000) (dsimp := false) only [h0, h4, h5, h7, h8, H0, H1, PR_len, k5, hn, hF, axs, AThen, ABlock, dstsOk, AStep, callsF, AWant, aop, AS.ev, AS.put, upd, AS.bound, abin, aint, aload, astore, cellsAt, AV.cells, alen, elems, AV.int?, FPost, aresL, ares1, pack, afill, splice, Value.oneCell', Nat.reduceLT, Nat.reduceLeDiff, Nat.reduceEqDiff, Nat.reduceAdd, Nat.reduceMul, Nat.reduceSub, Nat.reduceBEq, Int.reduceLE, Int.reduceLT, Int.reduceToNat, Int.reduceNeg, Int.reduceEq, axt, ftK, ft3, pickP, AScope, AAll, pickQ, ftQ, inHeap, tys]
                    exact ⟨_, rfl, Sees.sc⟩
                · by_cases hn : a.n = 0
                  · by_cases he : a.err = 2
                    · skip
                      have hF : fitsB m o a = true := by simp [fitsB, mayOut, want, is123, hob, outB_nil, k1, k2, k3, k4, k5, b1, b2, b3, hn, he]
                      simp (maxSteps := 400000) (dsimp := false) only [h0, h4, h5, h7, h8, H0, H1, PR_len, k1, k2, k3, k4, k5, hn, he, hF, axs, AThen, ABlock, dstsOk, AStep, callsF, AWant, aop, AS.ev, AS.put, upd, AS.bound, abin, aint, aload, astore, cellsAt, AV.cells, alen, elems, AV.int?, FPost, aresL, ares1, pack, afill, splice, Value.oneCell', Nat.reduceLT, Nat.reduceLeDiff, Nat.reduceEqDiff, Nat.reduceAdd, Nat.reduceMul, Nat.reduceSub, Nat.reduceBEq, Int.reduceLE, Int.reduceLT, Int.reduceToNat, Int.reduceNeg, Int.reduceEq, axt, ftK, ft3, pickP, AScope, AAll, pickQ, ftQ, inHeap, tys]
                      exact ⟨_, rfl, Sees.sc⟩
                    · skip
                      have hF : fitsB m o a = false := by simp [fitsB, mayOut, want, is123, hob, outB_nil, k1, k2, k3, k4, k5, b1, b2, b3, hn, he]
                      simp (maxSteps := 400000) (dsimp := false) only [h0, h4, h5, h7, h8, H0, H1, PR_len, k1, k2, k3, k4, k5, hn, he, hF, axs, AThen, ABlock, dstsOk, AStep, callsF, AWant, aop, AS.ev, AS.put, upd, AS.bound, abin, aint, aload, astore, cellsAt, AV.cells, alen, elems, AV.int?, FPost, aresL, ares1, pack, afill, splice, Value.oneCell', Nat.reduceLT, Nat.reduceLeDiff, Nat.reduceEqDiff, Nat.reduceAdd, Nat.reduceMul, Nat.reduceSub, Nat.reduceBEq, Int.reduceLE, Int.reduceLT, Int.reduceToNat, Int.reduceNeg, Int.reduceEq, axt, ftK, ft3, pickP, AScope, AAll, pickQ, ftQ, inHeap, tys]
                      exact ⟨_, rfl, Sees.sc⟩
                  · skip
                    have hF : fitsB m o a = false := by simp [fitsB, mayOut, want, is123, hob, outB_nil, k1, k2, k3, k4, k5, b1, b2, b3, hn]
                    simp (maxSteps := 400000) (dsimp := false) only [h0, h4, h5, h7, h8, H0, H1, PR_len, k1, k2, k3, k4, k5, hn, hF, axs, AThen, ABlock, dstsOk, AStep, callsF, AWant, aop, AS.ev, AS.put, upd, AS.bound, abin, aint, aload, astore, cellsAt, AV.cells, alen, elems, AV.int?, FPost, aresL, ares1, pack, afill, splice, Value.oneCell', Nat.reduceLT, Nat.reduceLeDiff, Nat.reduceEqDiff, Nat.reduceAdd, Nat.reduceMul, Nat.reduceSub, Nat.reduceBEq, Int.reduceLE, Int.reduceLT, Int.reduceToNat, Int.reduceNeg, Int.reduceEq, axt, ftK, ft3, pickP, AScope, AAll, pickQ, ftQ, inHeap, tys]
                    exact ⟨_, rfl, Sees.sc⟩
              · have hb2 : bareB a = false := by simpa using hb
                rw [hb2] at h8
                have hF : fitsB m o a = false := Bool.eq_false_iff.2 fun h => hb (fits_bare h k1 k2 k3 k4')
                by_cases k5 : o.kind = 5
                · simp (maxSteps := 400000) (dsimp := false) only [h0, h4, h5, h7, h8, H0, H1, PR_len, k5, hF, axs, AThen, ABlock, dstsOk, AStep, callsF, AWant, aop, AS.ev, AS.put, upd, AS.bound, abin, aint, aload, astore, cellsAt, AV.cells, alen, elems, AV.int?, FPost, aresL, ares1, pack, afill, splice, Value.oneCell', Nat.reduceLT, Nat.reduceLeDiff, Nat.reduceEqDiff, Nat.reduceAdd, Nat.reduceMul, Nat.reduceSub, Nat.reduceBEq, Int.reduceLE, Int.reduceLT, Int.reduceToNat, Int.reduceNeg, Int.reduceEq, axt, ftK, ft3, pickP, AScope, AAll, pickQ, ftQ, inHeap, tys]
                  exact ⟨_, rfl, Sees.sc⟩
                · simp (maxSteps := 400000) (dsimp := false) only [h0, h4, h5, h7, h8, H0, H1, PR_len, k1, k2, k3, k4, k5, hF, axs, AThen, ABlock, dstsOk, AStep, callsF, AWant, aop, AS.ev, AS.put, upd, AS.bound, abin, aint, aload, astore, cellsAt, AV.cells, alen, elems, AV.int?, FPost, aresL, ares1, pack, afill, splice, Value.oneCell', Nat.reduceLT, Nat.reduceLeDiff, Nat.reduceEqDiff, Nat.reduceAdd, Nat.reduceMul, Nat.reduceSub, Nat.reduceBEq, Int.reduceLE, Int.reduceLT, Int.reduceToNat, Int.reduceNeg, Int.reduceEq, axt, ftK, ft3, pickP, AScope, AAll, pickQ, ftQ, inHeap, tys]
                  exact ⟨_, rfl, Sees.sc⟩
end Go.Al
