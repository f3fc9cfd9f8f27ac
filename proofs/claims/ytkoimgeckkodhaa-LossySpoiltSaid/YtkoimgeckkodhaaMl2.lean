/- An answer that fits, and is spoilt in one field, doesn't fit. Conditions: the numbers fit their kinds. -/
import Derived.Test.YtkoimgeckkodhaaMl1
set_option linter.unusedVariables false
set_option linter.unusedSimpArgs false
set_option maxRecDepth 20000
set_option maxHeartbeats 6400000
-- axs, axw, aresL, afill, Value.oneCell', Nat.reduceLT, Nat.reduceLeDiff, Nat.reduceEqDiff, Nat.reduceAdd, Nat.reduceMul, Nat.reduceSub, Nat.reduceBEq, Int.reduceLE, Int.reduceLT, Int.reduceToNat, Int.reduceNeg, Int.reduceEq, axt, ftK, ft3, AAll, ftQ, ST, tys: ST
-- NOIDS: noIdsE_PR, NV.ok', noIdsE_OL, noIdsE_AL
-- LENS: PR_len, OL_len, AL_len, List.length_set
namespace Go.Al
open Go.Proofs
theorem fitsB_all {m : List (Int × Int)} {o : LOp} {a : LAns} (h : fitsB m o a = true) : a.hit = (want m o a).hit ∧ a.val = (want m o a).val ∧ a.n = (want m o a).n ∧ a.err = (want m o a).err := by
  unfold fitsB at h
  simp only [Bool.and_eq_true] at h
  obtain ⟨_, h1, h2, h3, h4, _⟩ := h
  exact ⟨of_decide_eq_true h1, of_decide_eq_true h2, of_decide_eq_true h3, of_decide_eq_true h4⟩
theorem want_same (m : List (Int × Int)) (o : LOp) (a b : LAns) : (want m o a).hit = (want m o b).hit ∧ (want m o a).val = (want m o b).val ∧ (want m o a).n = (want m o b).n := by
  unfold want
  split
  · exact ⟨rfl, rfl, rfl⟩
  split
  · exact ⟨rfl, rfl, rfl⟩
  split
  · exact ⟨rfl, rfl, rfl⟩
  · exact ⟨rfl, rfl, rfl⟩
theorem want_err (m : List (Int × Int)) (o : LOp) (a : LAns) : 0 ≤ (want m o a).err ∧ (want m o a).err ≤ 2 := by
  unfold want
  split
  · exact ⟨by show (0 : Int) ≤ 0; omega, by show (0 : Int) ≤ 2; omega⟩
  split
  · exact ⟨by show (0 : Int) ≤ 0; omega, by show (0 : Int) ≤ 2; omega⟩
  split
  · show 0 ≤ (if a.err = 1 ∧ a.out = [] then (1 : Int) else 0) ∧ (if a.err = 1 ∧ a.out = [] then (1 : Int) else 0) ≤ 2
    split <;> omega
  · exact ⟨by show (0 : Int) ≤ 2; omega, by show (2 : Int) ≤ 2; omega⟩
/-- One field is spoilt. -/
def spoil (j : Int) (a : LAns) : LAns :=
  if j = 0 then ⟨!a.hit, a.val, a.n, a.out, a.err⟩ else if j = 1 then ⟨a.hit, IntKind.u64.wrap (a.val + 1), a.n, a.out, a.err⟩ else if j = 2 then ⟨a.hit, a.val, IntKind.i64.wrap (a.n + 1), a.out, a.err⟩ else ⟨a.hit, a.val, a.n, a.out, IntKind.i64.wrap (a.err + 3)⟩
theorem u64_next (v : Int) : IntKind.u64.wrap (v + 1) ≠ v := by
  simp only [IntKind.wrap, IntKind.signed, IntKind.bits]
  simp
  omega
theorem i64_next (v : Int) : IntKind.i64.wrap (v + 1) ≠ v := by
  simp only [IntKind.wrap, IntKind.signed, IntKind.bits]
  simp
  omega
theorem spoil_out (j : Int) (a : LAns) : (spoil j a).out = a.out := by
  unfold spoil
  split
  · rfl
  split
  · rfl
  split <;> rfl
theorem spoilt {m : List (Int × Int)} {o : LOp} {a : LAns} (j : Int) (h : fitsB m o a = true) : fitsB m o (spoil j a) = false := by
  obtain ⟨h1, h2, h3, h4⟩ := fitsB_all h
  obtain ⟨w1, w2, w3⟩ := want_same m o (spoil j a) a
  obtain ⟨e1, e2⟩ := want_err m o a
  obtain ⟨e3, e4⟩ := want_err m o (spoil j a)
  cases hf : fitsB m o (spoil j a) with
  | false => rfl
  | true =>
    exfalso
    obtain ⟨g1, g2, g3, g4⟩ := fitsB_all hf
    rw [w1, ← h1] at g1
    rw [w2, ← h2] at g2
    rw [w3, ← h3] at g3
    have g4' : (spoil j a).err ≤ 2 := by omega
    clear g4 w1 w2 w3 e3 e4 hf
    unfold spoil at g1 g2 g3 g4'
    by_cases j0 : j = 0
    · rw [if_pos j0] at g1
      have g1 : (!a.hit) = a.hit := g1
      cases hh : a.hit <;> rw [hh] at g1 <;> cases g1
    rw [if_neg j0] at g2 g3 g4'
    by_cases j1 : j = 1
    · rw [if_pos j1] at g2
      exact u64_next a.val g2
    rw [if_neg j1] at g3 g4'
    by_cases j2 : j = 2
    · rw [if_pos j2] at g3
      exact i64_next a.n g3
    rw [if_neg j2] at g4'
    have g4' : IntKind.i64.wrap (a.err + 3) ≤ 2 := g4'
    rw [wrap_in (by omega) (by omega)] at g4'
    omega
theorem getD_set {α : Type} (l : List α) (k i : Nat) (d x : α) (h : i ≠ k) : (l.set k x).getD i d = l.getD i d := by
  rw [List.getD_eq_getElem?_getD, List.getD_eq_getElem?_getD, List.getElem?_set_ne (Ne.symm h)]
theorem mapAt_set (l : List LOp) (bs : List LAns) (k : Nat) (a : LAns) : ∀ i, i ≤ k → mapAt l (bs.set k a) i = mapAt l bs i
  | 0, _ => rfl
  | i + 1, h => by
    show behindM _ _ _ = behindM _ _ _
    rw [mapAt_set l bs k a i (by omega), getD_set _ _ _ _ _ (by omega)]
theorem wk_spoilt {l : List LOp} {bs : List LAns} {k : Nat} {a : LAns} (j : Int) (hk : k < l.length) (ha : bs[k]? = some a) (hfit : ∀ q, q ≤ k → fitAt l bs q = true) : wkN l (bs.set k (spoil j a)) = k := by
  obtain ⟨hkb, e⟩ := List.getElem?_eq_some_iff.1 ha
  have hga : bs.getD k a0 = a := by rw [List.getD_eq_getElem?_getD, ha]; rfl
  have hgs : (bs.set k (spoil j a)).getD k a0 = spoil j a := by rw [List.getD_eq_getElem?_getD, List.getElem?_set_self hkb]; rfl
  have h1 : fitAt l (bs.set k (spoil j a)) k = false := by
    have := hfit k (Nat.le_refl _)
    unfold fitAt at this ⊢
    rw [mapAt_set _ _ _ _ _ (Nat.le_refl _), hgs, List.length_set, decide_eq_true hkb, Bool.true_and]
    rw [hga, decide_eq_true hkb, Bool.true_and] at this
    exact spoilt j this
  have h2 : ∀ q, q < k → fitAt l (bs.set k (spoil j a)) q = true := fun q hq => by
    have := hfit q (by omega)
    unfold fitAt at this ⊢
    rw [mapAt_set _ _ _ _ _ (by omega), getD_set _ _ _ _ _ (by omega), List.length_set]
    exact this
  have := wrongN_at hk h1 h2
  unfold wkN
  rw [this]
theorem AL_set (A : List LAns) (k : Nat) (a : LAns) : (AL A).set k [.sc (.bool a.hit), .sc (.int .u64 a.val), .sc (.int .i64 a.n), .lst 2 (PR a.out), .sc (.int .i64 a.err)] = AL (A.set k a) := by
  unfold AL
  rw [List.map_set]
  rfl
theorem see89a20 {p : Prop} (h : p := by repeat' (first | exact True.intro | exact Sees.sc | exact Sees.none | ((with_reducible refine Sees.same ?_) <;> simp [noIds, noIdsL, noIdsE, noIdsE_U, noIdsE_UU, noIdsE_PR, NV.ok', noIdsE_OL, noIdsE_AL] <;> fail) | (refine Live.sees ?_ ?_ <;> first | assumption | (simp [noIdsE_U, noIdsE_UU, noIdsE_PR, NV.ok', noIdsE_OL, noIdsE_AL] <;> fail)) | (refine Sees.obj ?_ ?_ ?_ <;> first | exact ⟨_, _, by assumption, rfl⟩ | (simp [U_len, UU_len, PR_len, OL_len, AL_len, List.length_set] <;> fail) | (simp [noIdsE_U, noIdsE_UU, noIdsE_PR, NV.ok', noIdsE_OL, noIdsE_AL] <;> fail) | (simp [U, UU, upd] <;> fail) | (simp [U, UU, upd, neS, *] <;> fail)) | (refine Sees.of_seen 3 ?_ <;> simp [seen, upd, noIdsE, noIdsL, noIds, U, UU, Nat.add_assoc] <;> fail) | refine Sees.agg ?_ | refine And.intro ?_ ?_ | simp only [SeesL])) : p := h
theorem law_LossySpoilt (p : Int) (wp : (Lit.int .u8 p).wf = true) (e : List (List Value)) (f : ∀ x ∈ e, FitK [some .i64, some .u64, some .u64, some .i64] x) (x : List Value) (fx : FitK [some .u8, some .u8] x) :
    PCalls Try.prog 5 [.sc (.int .u8 p), .lst 4 (e.map fun e => e.map .sc), .agg (x.map .sc)] (.sc (.bool true)) := by
  obtain ⟨l, hl, hk⟩ := rows_small f
  simp only [FitK] at fx
  obtain ⟨x0, r, rfl, hx0, x1, r, rfl, hx1, rfl⟩ := fx
  obtain ⟨u0, u1⟩ := u8_of hx0
  obtain ⟨v0, v1⟩ := u8_of hx1
  obtain ⟨p0, p1⟩ := u8_of wp
  rw [hl]
  obtain ⟨w1, w2, w3⟩ := pol_num p0 p1
  have cf := rFewO l
  have g0 : (0 : Int) < ((2 : Nat) : Int) := by omega
  have g1 : (1 : Int) < ((2 : Nat) : Int) := by omega
  refine PCalls.intro2 Try.func5 rfl rfl Try.ntmps5 Try.results5 (by simp) fun n => ?_; simp (maxSteps := 400000) (dsimp := false) only [axs, axw, aresL, afill, Value.oneCell', Nat.reduceLT, Nat.reduceLeDiff, Nat.reduceEqDiff, Nat.reduceAdd, Nat.reduceMul, Nat.reduceSub, Nat.reduceBEq, Int.reduceLE, Int.reduceLT, Int.reduceToNat, Int.reduceNeg, Int.reduceEq, axt, ftK, ft3, AAll, ftQ, ST, tys]
  refine ACallK.strict rfl (awake22) (by simp only [SeesL, axs, axt, AS.ev, AS.put, upd, inHeap, Nat.reduceLT, Nat.reduceEqDiff, Nat.reduceAdd, Nat.reduceBEq, ST] <;> exact see89a20) ?_; simp (maxSteps := 400000) (dsimp := false) only [axs, axw, aresL, afill, Value.oneCell', Nat.reduceLT, Nat.reduceLeDiff, Nat.reduceEqDiff, Nat.reduceAdd, Nat.reduceMul, Nat.reduceSub, Nat.reduceBEq, Int.reduceLE, Int.reduceLT, Int.reduceToNat, Int.reduceNeg, Int.reduceEq, axt, ftK, ft3, AAll, ftQ, ST, tys]
  cases hf : fewO l with
  | false =>
    rw [hf] at cf
    refine ACallK.strict rfl (cf) (by simp only [SeesL, axs, axt, AS.ev, AS.put, upd, inHeap, Nat.reduceLT, Nat.reduceEqDiff, Nat.reduceAdd, Nat.reduceBEq, ST] <;> exact see89a20) ?_; simp (maxSteps := 400000) (dsimp := false) only [axs, axw, aresL, afill, Value.oneCell', Nat.reduceLT, Nat.reduceLeDiff, Nat.reduceEqDiff, Nat.reduceAdd, Nat.reduceMul, Nat.reduceSub, Nat.reduceBEq, Int.reduceLE, Int.reduceLT, Int.reduceToNat, Int.reduceNeg, Int.reduceEq, axt, ftK, ft3, AAll, ftQ, ST, tys]
    exact ⟨_, rfl, Sees.sc⟩
  | true =>
    rw [hf] at cf
    obtain ⟨l60, hs⟩ := few_small hf hk
    rcases Nat.eq_zero_or_pos l.length with hl0 | hl0
    · have e0 : ((l.length : Nat) : Int) = 0 := by omega
      refine ACallK.strict rfl (cf) (by simp only [SeesL, OL_len, eq_true e0, axs, axt, AS.ev, AS.put, upd, inHeap, Nat.reduceLT, Nat.reduceEqDiff, Nat.reduceAdd, Nat.reduceBEq, ST] <;> exact see89a20) ?_; simp (maxSteps := 400000) (dsimp := false) only [OL_len, eq_true e0, axs, axw, aresL, afill, Value.oneCell', Nat.reduceLT, Nat.reduceLeDiff, Nat.reduceEqDiff, Nat.reduceAdd, Nat.reduceMul, Nat.reduceSub, Nat.reduceBEq, Int.reduceLE, Int.reduceLT, Int.reduceToNat, Int.reduceNeg, Int.reduceEq, axt, ftK, ft3, AAll, ftQ, ST, tys]
      exact ⟨_, rfl, Sees.sc⟩
    · have e0 : ¬ ((l.length : Nat) : Int) = 0 := by omega
      obtain ⟨π, hp⟩ := polOf p0
      obtain ⟨r1, r2, r3, r4⟩ := runS_ok (π := π) (c := 3) (by omega) (by omega) l hs
      have hfit : ∀ q, q < l.length → fitAt l (runS π 3 l).2 q = true := fun q hq => run_fit (by omega) (by omega) hs hq
      have cr := rRun (π := π) 3 (by omega) (by omega) l (by omega) hs
      generalize runS π 3 l = R at *
      obtain ⟨x, A⟩ := R
      simp only at r1 r2 r3 r4 hfit cr
      obtain ⟨k, hkk⟩ : ∃ k : Nat, x0.tmod (l.length : Int) = k := ⟨(x0.tmod (l.length : Int)).toNat, by have := Int.tmod_nonneg (l.length : Int) u0; omega⟩
      have hkl : k < l.length := by
        have := Int.tmod_lt_of_pos x0 (show (0 : Int) < (l.length : Int) by omega)
        omega
      obtain ⟨a, ha⟩ : ∃ a, A[k]? = some a := ⟨_, List.getElem?_eq_getElem (by omega)⟩
      have hg := AL_get ha
      have w4 : IntKind.i64.wrap x0 = x0 := wrap_in u0 (by omega)
      have w5 : IntKind.i64.wrap (k : Int) = k := wrap_in (by omega) (by omega)
      have kp0 : (0 : Int) ≤ (k : Int) := by omega
      have kp1 : (k : Int) < A.length := by omega
      have b1 : A.length * 56 ≤ 140737488355328 := by omega
      have b2 : A.length ≤ 1099511627776 := by omega
      have j0 := Int.tmod_nonneg 4 v0
      have j1 := Int.tmod_lt_of_pos x1 (show (0 : Int) < 4 by omega)
      have hj : IntKind.u8.wrap (x1.tmod 4) = x1.tmod 4 := by
        simp only [IntKind.wrap, IntKind.signed, IntKind.bits]
        simp
        omega
      have cw : ∀ j, PCalls Try.prog 11 [.lst 4 (OL l), .lst 5 (AL (A.set k (spoil j a)))] (.sc (.int .i64 k)) := fun j => by
        have := cWrong l (A.set k (spoil j a)) (by omega) (fun b hb => by
          rcases List.mem_or_eq_of_mem_set hb with h | h
          · have := r4 b h; omega
          · rw [h, spoil_out]; have := r4 a (List.mem_of_getElem? ha); omega) (by rw [List.length_set]; omega)
        rw [wk_spoilt j hkl ha (fun q hq => hfit q (by omega))] at this
        exact this
      unfold MS.av at cr
      rw [hp] at cr
      generalize π.cel x.s = X at *
      refine ACallK.strict rfl (cf) (by simp only [SeesL, OL_len, eq_false e0, w1, w2, w3, axs, axt, AS.ev, AS.put, upd, inHeap, Nat.reduceLT, Nat.reduceEqDiff, Nat.reduceAdd, Nat.reduceBEq, ST] <;> exact see89a20) ?_; simp (maxSteps := 400000) (dsimp := false) only [OL_len, eq_false e0, w1, w2, w3, axs, axw, aresL, afill, Value.oneCell', Nat.reduceLT, Nat.reduceLeDiff, Nat.reduceEqDiff, Nat.reduceAdd, Nat.reduceMul, Nat.reduceSub, Nat.reduceBEq, Int.reduceLE, Int.reduceLT, Int.reduceToNat, Int.reduceNeg, Int.reduceEq, axt, ftK, ft3, AAll, ftQ, ST, tys]
      refine ACallK.strict rfl (cr) (by simp only [SeesL, axs, axt, AS.ev, AS.put, upd, inHeap, Nat.reduceLT, Nat.reduceEqDiff, Nat.reduceAdd, Nat.reduceBEq, ST] <;> exact see89a20) ?_; simp (maxSteps := 400000) (dsimp := false) only [axs, axw, aresL, afill, Value.oneCell', Nat.reduceLT, Nat.reduceLeDiff, Nat.reduceEqDiff, Nat.reduceAdd, Nat.reduceMul, Nat.reduceSub, Nat.reduceBEq, Int.reduceLE, Int.reduceLT, Int.reduceToNat, Int.reduceNeg, Int.reduceEq, axt, ftK, ft3, AAll, ftQ, ST, tys]
      refine AStepX.arrayAddr (k := 0) rfl ar58 ty5 rfl rfl (by omega) g0 ?_
      simp (maxSteps := 400000) (dsimp := false) only [OL_len, AL_len, w4, hkk, w5, e0, b1, b2, axs, axw, aresL, afill, Value.oneCell', Nat.reduceLT, Nat.reduceLeDiff, Nat.reduceEqDiff, Nat.reduceAdd, Nat.reduceMul, Nat.reduceSub, Nat.reduceBEq, Int.reduceLE, Int.reduceLT, Int.reduceToNat, Int.reduceNeg, Int.reduceEq, axt, ftK, ft3, AAll, ftQ, ST, tys]
      refine AStepX.arrayAddr (k := 1) rfl ar58 ty5 rfl rfl (by omega) g1 ?_
      have hj4 : x1.tmod 4 = 0 ∨ x1.tmod 4 = 1 ∨ x1.tmod 4 = 2 ∨ x1.tmod 4 = 3 := by omega
      rcases hj4 with hj4 | hj4 | hj4 | hj4
      · rw [hj4] at hj
        have cw := cw 0
        have hset : (AL A).set k [.sc (.bool (!a.hit)), .sc (.int .u64 a.val), .sc (.int .i64 a.n), .lst 2 (PR a.out), .sc (.int .i64 a.err)] = AL (A.set k (spoil 0 a)) := AL_set A k (spoil 0 a)
        have hsl : (A.set k (spoil 0 a)).length = A.length := List.length_set
        simp (maxSteps := 400000) (dsimp := false) only [hj4, hj, kp0, kp1, hg, AL_len, hset, axs, axw, aresL, afill, Value.oneCell', Nat.reduceLT, Nat.reduceLeDiff, Nat.reduceEqDiff, Nat.reduceAdd, Nat.reduceMul, Nat.reduceSub, Nat.reduceBEq, Int.reduceLE, Int.reduceLT, Int.reduceToNat, Int.reduceNeg, Int.reduceEq, axt, ftK, ft3, AAll, ftQ, ST, tys]
        refine ACallK.shutO (id := n + 1 + 1 + 1) (upd_same _ _ _) ?_
        refine ACallK.strict rfl (cw) (by simp only [SeesL, AL_len, hsl, axs, axt, AS.ev, AS.put, upd, inHeap, Nat.reduceLT, Nat.reduceEqDiff, Nat.reduceAdd, Nat.reduceBEq, ST] <;> exact see89a20) ?_; simp (maxSteps := 400000) (dsimp := false) only [AL_len, hsl, axs, axw, aresL, afill, Value.oneCell', Nat.reduceLT, Nat.reduceLeDiff, Nat.reduceEqDiff, Nat.reduceAdd, Nat.reduceMul, Nat.reduceSub, Nat.reduceBEq, Int.reduceLE, Int.reduceLT, Int.reduceToNat, Int.reduceNeg, Int.reduceEq, axt, ftK, ft3, AAll, ftQ, ST, tys]
        exact ⟨_, rfl, Sees.sc⟩
      · rw [hj4] at hj
        have cw := cw 1
        have z0 : ¬ (1 : Int) = 0 := by omega
        have hset : (AL A).set k [.sc (.bool a.hit), .sc (.int .u64 (IntKind.u64.wrap (a.val + 1))), .sc (.int .i64 a.n), .lst 2 (PR a.out), .sc (.int .i64 a.err)] = AL (A.set k (spoil 1 a)) := AL_set A k (spoil 1 a)
        have hsl : (A.set k (spoil 1 a)).length = A.length := List.length_set
        simp (maxSteps := 400000) (dsimp := false) only [hj4, hj, kp0, kp1, hg, AL_len, hset, z0, axs, axw, aresL, afill, Value.oneCell', Nat.reduceLT, Nat.reduceLeDiff, Nat.reduceEqDiff, Nat.reduceAdd, Nat.reduceMul, Nat.reduceSub, Nat.reduceBEq, Int.reduceLE, Int.reduceLT, Int.reduceToNat, Int.reduceNeg, Int.reduceEq, axt, ftK, ft3, AAll, ftQ, ST, tys]
        refine ACallK.shutO (id := n + 1 + 1 + 1) (upd_same _ _ _) ?_
        refine ACallK.strict rfl (cw) (by simp only [SeesL, AL_len, hsl, axs, axt, AS.ev, AS.put, upd, inHeap, Nat.reduceLT, Nat.reduceEqDiff, Nat.reduceAdd, Nat.reduceBEq, ST] <;> exact see89a20) ?_; simp (maxSteps := 400000) (dsimp := false) only [AL_len, hsl, axs, axw, aresL, afill, Value.oneCell', Nat.reduceLT, Nat.reduceLeDiff, Nat.reduceEqDiff, Nat.reduceAdd, Nat.reduceMul, Nat.reduceSub, Nat.reduceBEq, Int.reduceLE, Int.reduceLT, Int.reduceToNat, Int.reduceNeg, Int.reduceEq, axt, ftK, ft3, AAll, ftQ, ST, tys]
        exact ⟨_, rfl, Sees.sc⟩
      · rw [hj4] at hj
        have cw := cw 2
        have z0 : ¬ (2 : Int) = 0 := by omega
        have z1 : ¬ (2 : Int) = 1 := by omega
        have hset : (AL A).set k [.sc (.bool a.hit), .sc (.int .u64 a.val), .sc (.int .i64 (IntKind.i64.wrap (a.n + 1))), .lst 2 (PR a.out), .sc (.int .i64 a.err)] = AL (A.set k (spoil 2 a)) := AL_set A k (spoil 2 a)
        have hsl : (A.set k (spoil 2 a)).length = A.length := List.length_set
        simp (maxSteps := 400000) (dsimp := false) only [hj4, hj, kp0, kp1, hg, AL_len, hset, z0, z1, axs, axw, aresL, afill, Value.oneCell', Nat.reduceLT, Nat.reduceLeDiff, Nat.reduceEqDiff, Nat.reduceAdd, Nat.reduceMul, Nat.reduceSub, Nat.reduceBEq, Int.reduceLE, Int.reduceLT, Int.reduceToNat, Int.reduceNeg, Int.reduceEq, axt, ftK, ft3, AAll, ftQ, ST, tys]
        refine ACallK.shutO (id := n + 1 + 1 + 1) (upd_same _ _ _) ?_
        refine ACallK.strict rfl (cw) (by simp only [SeesL, AL_len, hsl, axs, axt, AS.ev, AS.put, upd, inHeap, Nat.reduceLT, Nat.reduceEqDiff, Nat.reduceAdd, Nat.reduceBEq, ST] <;> exact see89a20) ?_; simp (maxSteps := 400000) (dsimp := false) only [AL_len, hsl, axs, axw, aresL, afill, Value.oneCell', Nat.reduceLT, Nat.reduceLeDiff, Nat.reduceEqDiff, Nat.reduceAdd, Nat.reduceMul, Nat.reduceSub, Nat.reduceBEq, Int.reduceLE, Int.reduceLT, Int.reduceToNat, Int.reduceNeg, Int.reduceEq, axt, ftK, ft3, AAll, ftQ, ST, tys]
        exact ⟨_, rfl, Sees.sc⟩
      · rw [hj4] at hj
        have cw := cw 3
        have z0 : ¬ (3 : Int) = 0 := by omega
        have z1 : ¬ (3 : Int) = 1 := by omega
        have z2 : ¬ (3 : Int) = 2 := by omega
        have hset : (AL A).set k [.sc (.bool a.hit), .sc (.int .u64 a.val), .sc (.int .i64 a.n), .lst 2 (PR a.out), .sc (.int .i64 (IntKind.i64.wrap (a.err + 3)))] = AL (A.set k (spoil 3 a)) := AL_set A k (spoil 3 a)
        have hsl : (A.set k (spoil 3 a)).length = A.length := List.length_set
        simp (maxSteps := 400000) (dsimp := false) only [hj4, hj, kp0, kp1, hg, AL_len, hset, z0, z1, z2, axs, axw, aresL, afill, Value.oneCell', Nat.reduceLT, Nat.reduceLeDiff, Nat.reduceEqDiff, Nat.reduceAdd, Nat.reduceMul, Nat.reduceSub, Nat.reduceBEq, Int.reduceLE, Int.reduceLT, Int.reduceToNat, Int.reduceNeg, Int.reduceEq, axt, ftK, ft3, AAll, ftQ, ST, tys]
        refine ACallK.shutO (id := n + 1 + 1 + 1) (upd_same _ _ _) ?_
        refine ACallK.strict rfl (cw) (by simp only [SeesL, AL_len, hsl, axs, axt, AS.ev, AS.put, upd, inHeap, Nat.reduceLT, Nat.reduceEqDiff, Nat.reduceAdd, Nat.reduceBEq, ST] <;> exact see89a20) ?_; simp (maxSteps := 400000) (dsimp := false) only [AL_len, hsl, axs, axw, aresL, afill, Value.oneCell', Nat.reduceLT, Nat.reduceLeDiff, Nat.reduceEqDiff, Nat.reduceAdd, Nat.reduceMul, Nat.reduceSub, Nat.reduceBEq, Int.reduceLE, Int.reduceLT, Int.reduceToNat, Int.reduceNeg, Int.reduceEq, axt, ftK, ft3, AAll, ftQ, ST, tys]
        exact ⟨_, rfl, Sees.sc⟩
end Go.Al
