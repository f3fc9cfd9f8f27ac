/- A cache of any policy, by the reference: a put. Conditions: the state is one that comes up. -/
import Derived.Test.YtkoimgeckkodhaaMr1
set_option linter.unusedVariables false
set_option linter.unusedSimpArgs false
set_option maxRecDepth 20000
set_option maxHeartbeats 6400000
-- axs, axw, aresL, afill, Value.oneCell', Nat.reduceLT, Nat.reduceLeDiff, Nat.reduceEqDiff, Nat.reduceAdd, Nat.reduceMul, Nat.reduceSub, Nat.reduceBEq, Int.reduceLE, Int.reduceLT, Int.reduceToNat, Int.reduceNeg, Int.reduceEq, axt, ftK, ft3, AAll, ftQ, ST, tys: ST
-- NOIDS: noIdsE_PR, NV.ok'
-- LENS: PR_len, setP_len
namespace Go.Al
open Go.Proofs
theorem ASoloK.shut {P : Program} {o : Oper} {st : AS} {c : Call} {f : Operand} {g : FuncId} {args' : List AV} {r : AV} {K : AS → Prop} (id : Nat) {t z : Nat} {es : List (List AV)} (hid : st.H id = some (.obj t z es false)) (hc : callsF o = some (c, f)) (hf : st.ev f = .fn g []) (h : PCalls P g args' r)
    (hs : SeesL (upd st.H id (some (.obj t z es true))) false (c.args.toList.map st.ev) args') (hk : K ((AS.mk st.t (upd st.H id (some (.obj t z es true))) st.n).put o.dst r)) : ASoloK P o st K := by
  have hev : ({ st with H := upd st.H id (some (.obj t z es true)) } : AS).ev = st.ev := by funext x; cases x <;> rfl
  exact ⟨_, by unfold AStep; rw [hc]; exact ACallK.shutO hid (ACallK.strict (by rw [hev]; exact hf) h (by rw [hev]; exact hs) rfl), hk⟩
/-- A cache that the reference has. -/
structure MS (π : Pol) where
  s : π.St
  P : List (Int × Int)
  h : Int
  m : Int
  e : Int
def MS.av {π : Pol} (x : MS π) : AV := ST π.p (π.cel x.s) x.P x.h x.m x.e
/-- A key's value is another one. -/
def setP (P : List (Int × Int)) (k v : Int) : List (Int × Int) := P.map fun x => if x.1 = k then (x.1, v) else x
theorem setP_len (P : List (Int × Int)) (k v : Int) : (setP P k v).length = P.length := List.length_map _
theorem from_st {A : Type} {F : A → Prop} {a : A} (R : A → Prop) (h0 : R a) (h : ∀ b, R b → F b) : F a := h a h0
def putM {π : Pol} (x : MS π) (o : LOp) : MS π × LAns :=
  if o.key ∈ π.ks x.s then (⟨π.touch x.s o.key, setP x.P o.key o.val, x.h, x.m, x.e⟩, ⟨true, valK x.P o.key, 0, [], 0⟩)
  else (⟨(π.admit x.s o.key).1, (goA x.P (π.admit x.s o.key).2).1 ++ [(o.key, o.val)], x.h, x.m, IntKind.i64.wrap (x.e + (π.admit x.s o.key).2.length)⟩, ⟨false, 0, 0, (goA x.P (π.admit x.s o.key).2).2, 0⟩)
/-- The state is one that comes up; its pairs are few. -/
structure MS.Ok {π : Pol} (x : MS π) : Prop where
  s : π.ok x.s
  P : x.P.length ≤ 1000
theorem setP_step {P : List (Int × Int)} {i : Nat} {y : Int × Int} (k v : Int) (h : P[i]? = some y) : setP (P.take (i + 1)) k v ++ P.drop (i + 1) = (setP (P.take i) k v ++ P.drop i).set i (if y.1 = k then (y.1, v) else y) ∧ (setP (P.take i) k v ++ P.drop i)[i]? = some y := by
  obtain ⟨hi, e⟩ := List.getElem?_eq_some_iff.1 h
  have hl : (setP (P.take i) k v).length = i := by rw [setP_len, List.length_take]; omega
  have hd : P.drop i = y :: P.drop (i + 1) := by rw [← e, List.getElem_cons_drop]
  have ht : P.take (i + 1) = P.take i ++ [y] := by rw [List.take_add_one, h]; rfl
  constructor
  · rw [hd, List.set_append_right _ _ (by omega), hl, Nat.sub_self, ht]
    simp [setP]
  · rw [hd, List.getElem?_append_right (by omega), hl, Nat.sub_self]; rfl
theorem see59ea0 {p : Prop} (h : p := by repeat' (first | exact True.intro | exact Sees.sc | exact Sees.none | ((with_reducible refine Sees.same ?_) <;> simp [noIds, noIdsL, noIdsE, noIdsE_U, noIdsE_UU, noIdsE_PR, NV.ok'] <;> fail) | (refine Live.sees ?_ ?_ <;> first | assumption | (simp [noIdsE_U, noIdsE_UU, noIdsE_PR, NV.ok'] <;> fail)) | (refine Sees.obj ?_ ?_ ?_ <;> first | exact ⟨_, _, by assumption, rfl⟩ | (simp [U_len, UU_len, PR_len, setP_len] <;> fail) | (simp [noIdsE_U, noIdsE_UU, noIdsE_PR, NV.ok'] <;> fail) | (simp [U, UU, upd] <;> fail) | (simp [U, UU, upd, neS, *] <;> fail)) | (refine Sees.of_seen 3 ?_ <;> simp [seen, upd, noIdsE, noIdsL, noIds, U, UU, Nat.add_assoc] <;> fail) | refine Sees.agg ?_ | refine And.intro ?_ ?_ | simp only [SeesL])) : p := h
theorem see59ea1 {p : Prop} (h : p := by repeat' (first | exact True.intro | exact Sees.sc | exact Sees.none | ((with_reducible refine Sees.same ?_) <;> simp [noIds, noIdsL, noIdsE, noIdsE_U, noIdsE_UU, noIdsE_PR, NV.ok'] <;> fail) | (refine Live.sees ?_ ?_ <;> first | assumption | (simp [noIdsE_U, noIdsE_UU, noIdsE_PR, NV.ok'] <;> fail)) | (refine Sees.obj ?_ ?_ ?_ <;> first | exact ⟨_, _, by assumption, rfl⟩ | (simp [U_len, UU_len, PR_len, setP_len] <;> fail) | (simp [noIdsE_U, noIdsE_UU, noIdsE_PR, NV.ok'] <;> fail) | (simp [U, UU, upd, neS] <;> fail) | (simp [U, UU, upd, neS, *] <;> fail)) | refine Sees.agg ?_ | refine Sees.tup ?_ | refine And.intro ?_ ?_ | simp only [SeesL])) : p := h
theorem rPut {π : Pol} (x : MS π) (o : LOp) (ok : x.Ok) (hA : o.key ∉ π.ks x.s → (π.admit x.s o.key).2.length ≤ 1000) : PCalls Try.prog 35 [x.av, .agg o.cells] (.tup [(putM x o).1.av, .agg (putM x o).2.cells]) := by
  have hP := ok.P
  have hnd := π.nd x.s ok.s
  have ck := fun h m e => π.cKeys x.s x.P h m e ok.s
  have ch := rHas (π.ks x.s) o.key (by omega)
  unfold MS.av LOp.cells LAns.cells putM
  by_cases hk : o.key ∈ π.ks x.s
  · rw [if_pos hk]
    have cv := rValue x.P o.key (by omega)
    have ct := π.cTouch x.s (setP x.P o.key o.val) x.h x.m x.e o.key ok.s
    have b1 : x.P.length * 16 ≤ 140737488355328 := by omega
    have b2 : x.P.length ≤ 1099511627776 := by omega
    simp only
    refine PCalls.intro2 Try.func35 rfl rfl Try.ntmps35 Try.results35 (by simp) fun n => ?_; simp (maxSteps := 400000) (dsimp := false) only [axs, axw, aresL, afill, Value.oneCell', Nat.reduceLT, Nat.reduceLeDiff, Nat.reduceEqDiff, Nat.reduceAdd, Nat.reduceMul, Nat.reduceSub, Nat.reduceBEq, Int.reduceLE, Int.reduceLT, Int.reduceToNat, Int.reduceNeg, Int.reduceEq, axt, ftK, ft3, AAll, ftQ, ST, tys]
    refine ADraw.planR [] [(0, true), (1, true), (2, true), (3, true), (4, true)] [(0, false), (0, false), (0, false), (0, false), (0, false)] mixed (by kernel_rfl) (by kernel_rfl) ?_
    simp (maxSteps := 400000) (dsimp := false) only [axs, axw, aresL, afill, Value.oneCell', Nat.reduceLT, Nat.reduceLeDiff, Nat.reduceEqDiff, Nat.reduceAdd, Nat.reduceMul, Nat.reduceSub, Nat.reduceBEq, Int.reduceLE, Int.reduceLT, Int.reduceToNat, Int.reduceNeg, Int.reduceEq, axt, ftK, ft3, AAll, ftQ, ST, tys]
    refine ACallP.pure rfl (ck _ _ _) ?_; simp (maxSteps := 400000) (dsimp := false) only [axs, axw, aresL, afill, Value.oneCell', Nat.reduceLT, Nat.reduceLeDiff, Nat.reduceEqDiff, Nat.reduceAdd, Nat.reduceMul, Nat.reduceSub, Nat.reduceBEq, Int.reduceLE, Int.reduceLT, Int.reduceToNat, Int.reduceNeg, Int.reduceEq, axt, ftK, ft3, AAll, ftQ, ST, tys]
    refine ACallP.pure rfl (ch) ?_; simp (maxSteps := 400000) (dsimp := false) only [hk, axs, axw, aresL, afill, Value.oneCell', Nat.reduceLT, Nat.reduceLeDiff, Nat.reduceEqDiff, Nat.reduceAdd, Nat.reduceMul, Nat.reduceSub, Nat.reduceBEq, Int.reduceLE, Int.reduceLT, Int.reduceToNat, Int.reduceNeg, Int.reduceEq, axt, ftK, ft3, AAll, ftQ, ST, tys]
    refine ACallK.strict rfl (cv) (by simp only [SeesL, PR_len, b1, b2, axs, axt, AS.ev, AS.put, upd, inHeap, Nat.reduceLT, Nat.reduceEqDiff, Nat.reduceAdd, Nat.reduceBEq, ST]; exact see59ea0) ?_; simp (maxSteps := 400000) (dsimp := false) only [PR_len, b1, b2, axs, axw, aresL, afill, Value.oneCell', Nat.reduceLT, Nat.reduceLeDiff, Nat.reduceEqDiff, Nat.reduceAdd, Nat.reduceMul, Nat.reduceSub, Nat.reduceBEq, Int.reduceLE, Int.reduceLT, Int.reduceToNat, Int.reduceNeg, Int.reduceEq, axt, ftK, ft3, AAll, ftQ, ST, tys]
    refine ALoop.upto x.P.length (fun i s => s.t 2 = .ptr n 24 0 0 ∧ s.t 3 = .ptr (n + 1) 4 0 0 ∧ s.t 4 = .ptr (n + 1 + 1) 24 0 0 ∧ s.t 5 = .ptr (n + 1 + 1 + 1) 5 0 0 ∧ s.t 6 = .ptr (n + 1 + 1 + 1 + 1) 5 0 0 ∧ s.t 7 = .sl (n + 1 + 1 + 1 + 1 + 1 + 1) 2 0 x.P.length ∧ s.t 8 = .sc (.int .i64 i) ∧ n + 1 + 1 + 1 + 1 + 1 + 1 < s.n ∧
      s.H n = some (.obj 50 24 [[.sc (.int .i64 π.p), (π.cel x.s).a1.v, (π.cel x.s).a2.v, (π.cel x.s).a3.v, (π.cel x.s).a4.v, (π.cel x.s).a5.v, (π.cel x.s).a6.v, (π.cel x.s).a7.v, (π.cel x.s).a8.v, (π.cel x.s).a9.v, (π.cel x.s).a10.v, (π.cel x.s).a11.v, (π.cel x.s).a12.v, (π.cel x.s).a13.v, (π.cel x.s).a14.v, (π.cel x.s).a15.v, (π.cel x.s).a16.v, (π.cel x.s).a17.v, (π.cel x.s).a18.v, (π.cel x.s).a19.v, .lst 2 (PR x.P), .sc (.int .i64 x.h), .sc (.int .i64 x.m), .sc (.int .i64 x.e)]] false) ∧ s.H (n + 1) = some (.obj 65 4 [[.sc (.int .i64 o.kind), .sc (.int .u64 o.key), .sc (.int .u64 o.val), .sc (.int .i64 o.n)]] false) ∧ s.H (n + 1 + 1) = some (.obj 50 24 [[.sc (.int .i64 0), .sc (.int .i64 0), .sc (.slice none 0 0), .sc (.int .i64 0), .sc (.slice none 0 0), .sc (.slice none 0 0), .sc (.slice none 0 0), .sc (.int .i64 0), .sc (.slice none 0 0), .sc (.slice none 0 0), .sc (.slice none 0 0), .sc (.int .i64 0), .sc (.int .i64 0), .sc (.slice none 0 0), .sc (.slice none 0 0), .sc (.slice none 0 0), .sc (.slice none 0 0), .sc (.int .i64 0), .sc (.slice none 0 0), .sc (.slice none 0 0), .sc (.slice none 0 0), .sc (.int .i64 0), .sc (.int .i64 0), .sc (.int .i64 0)]] false) ∧ s.H (n + 1 + 1 + 1) = some (.obj 61 5 [[.sc (.bool false), .sc (.int .u64 0), .sc (.int .i64 0), .sc (.slice none 0 0), .sc (.int .i64 0)]] false) ∧ s.H (n + 1 + 1 + 1 + 1) = some (.obj 61 5 [[.sc (.bool true), .sc (.int .u64 (valK x.P o.key)), .sc (.int .i64 0), .sc (.slice none 0 0), .sc (.int .i64 0)]] false) ∧ s.H (n + 1 + 1 + 1 + 1 + 1 + 1) = some (.obj 56 2 (PR (setP (x.P.take i) o.key o.val ++ x.P.drop i)) false)) ?_ ?_
    · simp [upd, neS, setP]
    rintro i s hi hb ⟨h2, h3, h4, h5, h6, h7, h8, hlt0, g0, g1, g2, g3, g4, g6⟩
    have hne : (¬ n = n + 1 ∧ ¬ n + 1 = n ∧ ¬ n + 1 + 1 + 1 + 1 + 1 + 1 = n ∧ ¬ n = n + 1 + 1 + 1 + 1 + 1 + 1) ∧ (¬ n + 1 = n + 1 + 1 + 1 + 1 + 1 + 1 ∧ ¬ n + 1 + 1 + 1 + 1 + 1 + 1 = n + 1) := by omega
    rcases Nat.lt_or_ge i x.P.length with hlt | hge
    · obtain ⟨y, hy, hp0, hpl, hw, hT, hD⟩ := idx hlt (by omega)
      obtain ⟨q1, q2⟩ := setP_step o.key o.val hy
      have hg := PR_get q2
      have hql : (setP (x.P.take i) o.key o.val ++ x.P.drop i).length = x.P.length := by rw [List.length_append, setP_len, List.length_take, List.length_drop]; omega
      rw [q1]
      generalize setP (x.P.take i) o.key o.val ++ x.P.drop i = Q at *
      by_cases e : y.1 = o.key
      · rw [if_pos e]
        simp (maxSteps := 400000) (dsimp := false) only [h2, h3, h4, h5, h6, h7, h8, hpl, axs, axw, aresL, afill, Value.oneCell', Nat.reduceLT, Nat.reduceLeDiff, Nat.reduceEqDiff, Nat.reduceAdd, Nat.reduceMul, Nat.reduceSub, Nat.reduceBEq, Int.reduceLE, Int.reduceLT, Int.reduceToNat, Int.reduceNeg, Int.reduceEq, axt, ftK, ft3, AAll, ftQ, ST, tys]
        refine ADraw.planR [] [(0, true), (1, true), (2, true), (3, true), (4, true), (5, true), (6, true), (7, true)] [(0, false), (0, false), (0, false), (0, false), (0, false), (0, false), (0, false), (0, false)] mixed (by kernel_rfl) (by kernel_rfl) ?_
        simp (maxSteps := 400000) (dsimp := false) only [h2, h3, h4, h5, h6, h7, h8, g0, g1, g6, hp0, hpl, hg, e, hw, hne, PR_len, axs, axw, aresL, afill, Value.oneCell', Nat.reduceLT, Nat.reduceLeDiff, Nat.reduceEqDiff, Nat.reduceAdd, Nat.reduceMul, Nat.reduceSub, Nat.reduceBEq, Int.reduceLE, Int.reduceLT, Int.reduceToNat, Int.reduceNeg, Int.reduceEq, axt, ftK, ft3, AAll, ftQ, ST, tys]
        exact ⟨hlt, hlt0, g2, g3, g4, by rw [PR_set]⟩
      · rw [if_neg e]
        have hset : Q.set i y = Q := by
          apply List.ext_getElem?
          intro j
          rw [List.getElem?_set]
          split
          · rename_i h; subst h; split
            · exact q2.symm
            · rename_i h2; exact (List.getElem?_eq_none (by omega)).symm
          · rfl
        rw [hset]
        simp (maxSteps := 400000) (dsimp := false) only [h2, h3, h4, h5, h6, h7, h8, hpl, axs, axw, aresL, afill, Value.oneCell', Nat.reduceLT, Nat.reduceLeDiff, Nat.reduceEqDiff, Nat.reduceAdd, Nat.reduceMul, Nat.reduceSub, Nat.reduceBEq, Int.reduceLE, Int.reduceLT, Int.reduceToNat, Int.reduceNeg, Int.reduceEq, axt, ftK, ft3, AAll, ftQ, ST, tys]
        refine ADraw.planR [] [(0, true), (1, true), (2, true), (3, true), (4, true), (5, true), (6, true), (7, true)] [(0, false), (0, false), (0, false), (0, false), (0, false), (0, false), (0, false), (0, false)] mixed (by kernel_rfl) (by kernel_rfl) ?_
        simp (maxSteps := 400000) (dsimp := false) only [h2, h3, h4, h5, h6, h7, h8, g0, g1, g6, hp0, hpl, hg, e, hw, PR_len, axs, axw, aresL, afill, Value.oneCell', Nat.reduceLT, Nat.reduceLeDiff, Nat.reduceEqDiff, Nat.reduceAdd, Nat.reduceMul, Nat.reduceSub, Nat.reduceBEq, Int.reduceLE, Int.reduceLT, Int.reduceToNat, Int.reduceNeg, Int.reduceEq, axt, ftK, ft3, AAll, ftQ, ST, tys]
        exact ⟨hlt, hlt0, g2, g3, g4⟩
    · have hpl : ¬ (i : Int) < x.P.length := by omega
      rw [List.take_of_length_le hge, List.drop_of_length_le hge, List.append_nil] at g6
      simp (maxSteps := 400000) (dsimp := false) only [h2, h3, h4, h5, h6, h7, h8, hpl, g0, g1, g2, g3, g4, g6, hne, axs, axw, aresL, afill, Value.oneCell', Nat.reduceLT, Nat.reduceLeDiff, Nat.reduceEqDiff, Nat.reduceAdd, Nat.reduceMul, Nat.reduceSub, Nat.reduceBEq, Int.reduceLE, Int.reduceLT, Int.reduceToNat, Int.reduceNeg, Int.reduceEq, axt, ftK, ft3, AAll, ftQ, ST, tys]
      refine ADraw.tree [3] [(0, true), (1, true), (2, true)] 3 (.fork [(3, true)] (.leaf [(4, true), (5, true), (6, true)]) (.leaf [(5, true), (4, true), (6, true)])) (.leaf [(4, true), (3, true), (5, true), (6, true)]) mixed (by kernel_rfl) ?_
      simp (maxSteps := 400000) (dsimp := false) only [h2, h3, h4, h5, h6, h7, h8, hpl, g0, g1, g2, g3, g4, g6, hne, axs, axw, aresL, afill, Value.oneCell', Nat.reduceLT, Nat.reduceLeDiff, Nat.reduceEqDiff, Nat.reduceAdd, Nat.reduceMul, Nat.reduceSub, Nat.reduceBEq, Int.reduceLE, Int.reduceLT, Int.reduceToNat, Int.reduceNeg, Int.reduceEq, axt, ftK, ft3, AAll, ftQ, ST, tys]
      repeat' with_reducible refine And.intro ?_ ?_
      all_goals refine ASoloK.shut (n + 1 + 1 + 1 + 1 + 1 + 1) ((upd_ne _ _ (by omega)).trans g6) rfl rfl (ct) (by simp only [SeesL, h2, h3, h4, h5, h6, h7, h8, g0, g1, g2, g3, g4, g6, hne, PR_len, setP_len, axs, axt, AS.ev, AS.put, upd, inHeap, Nat.reduceLT, Nat.reduceEqDiff, Nat.reduceAdd, Nat.reduceBEq, ST]; exact see59ea0) ?_; simp (maxSteps := 400000) (dsimp := false) only [h2, h3, h4, h5, h6, h7, h8, g0, g1, g2, g3, g4, g6, hne, PR_len, setP_len, axs, axw, aresL, afill, Value.oneCell', Nat.reduceLT, Nat.reduceLeDiff, Nat.reduceEqDiff, Nat.reduceAdd, Nat.reduceMul, Nat.reduceSub, Nat.reduceBEq, Int.reduceLE, Int.reduceLT, Int.reduceToNat, Int.reduceNeg, Int.reduceEq, axt, ftK, ft3, AAll, ftQ, ST, tys]
      repeat' with_reducible refine And.intro ?_ ?_
      all_goals refine ⟨_, rfl, ?_⟩; simp (maxSteps := 400000) (dsimp := false) only [SeesL, axs, axw, aresL, afill, Value.oneCell', Nat.reduceLT, Nat.reduceLeDiff, Nat.reduceEqDiff, Nat.reduceAdd, Nat.reduceMul, Nat.reduceSub, Nat.reduceBEq, Int.reduceLE, Int.reduceLT, Int.reduceToNat, Int.reduceNeg, Int.reduceEq, axt, ftK, ft3, AAll, ftQ, ST, tys] <;> exact see59ea1
  · rw [if_neg hk]
    have hAl := hA hk
    have ca := π.cAdmit x.s x.P x.h x.m x.e o.key ok.s
    have cg := rGone π.p (π.cel (π.admit x.s o.key).1) x.P x.h x.m x.e (π.admit x.s o.key).2 (by omega) (by omega)
    obtain ⟨gl, go⟩ := goA_len x.P (π.admit x.s o.key).2
    generalize π.admit x.s o.key = R at *
    obtain ⟨s2, out⟩ := R
    simp only at hAl ca cg gl go ⊢
    generalize goA x.P out = W at *
    obtain ⟨Q, O⟩ := W
    simp only at cg gl go ⊢
    have b1 : Q.length * 16 ≤ 140737488355328 := by omega
    have b2 : Q.length ≤ 1099511627776 := by omega
    have b3 : (Q.length + 1) * 16 ≤ 140737488355328 := by omega
    have b4 : Q.length + 1 ≤ 1099511627776 := by omega
    generalize IntKind.i64.wrap (x.e + out.length) = e2 at *
    refine PCalls.intro2 Try.func35 rfl rfl Try.ntmps35 Try.results35 (by simp) fun n => ?_; simp (maxSteps := 400000) (dsimp := false) only [axs, axw, aresL, afill, Value.oneCell', Nat.reduceLT, Nat.reduceLeDiff, Nat.reduceEqDiff, Nat.reduceAdd, Nat.reduceMul, Nat.reduceSub, Nat.reduceBEq, Int.reduceLE, Int.reduceLT, Int.reduceToNat, Int.reduceNeg, Int.reduceEq, axt, ftK, ft3, AAll, ftQ, ST, tys]
    refine ADraw.planR [] [(0, true), (1, true), (2, true), (3, true), (4, true)] [(0, false), (0, false), (0, false), (0, false), (0, false)] mixed (by kernel_rfl) (by kernel_rfl) ?_
    simp (maxSteps := 400000) (dsimp := false) only [axs, axw, aresL, afill, Value.oneCell', Nat.reduceLT, Nat.reduceLeDiff, Nat.reduceEqDiff, Nat.reduceAdd, Nat.reduceMul, Nat.reduceSub, Nat.reduceBEq, Int.reduceLE, Int.reduceLT, Int.reduceToNat, Int.reduceNeg, Int.reduceEq, axt, ftK, ft3, AAll, ftQ, ST, tys]
    refine ACallP.pure rfl (ck _ _ _) ?_; simp (maxSteps := 400000) (dsimp := false) only [axs, axw, aresL, afill, Value.oneCell', Nat.reduceLT, Nat.reduceLeDiff, Nat.reduceEqDiff, Nat.reduceAdd, Nat.reduceMul, Nat.reduceSub, Nat.reduceBEq, Int.reduceLE, Int.reduceLT, Int.reduceToNat, Int.reduceNeg, Int.reduceEq, axt, ftK, ft3, AAll, ftQ, ST, tys]
    refine ACallP.pure rfl (ch) ?_; simp (maxSteps := 400000) (dsimp := false) only [hk, axs, axw, aresL, afill, Value.oneCell', Nat.reduceLT, Nat.reduceLeDiff, Nat.reduceEqDiff, Nat.reduceAdd, Nat.reduceMul, Nat.reduceSub, Nat.reduceBEq, Int.reduceLE, Int.reduceLT, Int.reduceToNat, Int.reduceNeg, Int.reduceEq, axt, ftK, ft3, AAll, ftQ, ST, tys]
    refine ACallK.strict rfl (ca) (by simp only [SeesL, axs, axt, AS.ev, AS.put, upd, inHeap, Nat.reduceLT, Nat.reduceEqDiff, Nat.reduceAdd, Nat.reduceBEq, ST]; exact see59ea0) ?_; simp (maxSteps := 400000) (dsimp := false) only [axs, axw, aresL, afill, Value.oneCell', Nat.reduceLT, Nat.reduceLeDiff, Nat.reduceEqDiff, Nat.reduceAdd, Nat.reduceMul, Nat.reduceSub, Nat.reduceBEq, Int.reduceLE, Int.reduceLT, Int.reduceToNat, Int.reduceNeg, Int.reduceEq, axt, ftK, ft3, AAll, ftQ, ST, tys]
    refine ACallK.strict rfl (cg) (by simp only [SeesL, axs, axt, AS.ev, AS.put, upd, inHeap, Nat.reduceLT, Nat.reduceEqDiff, Nat.reduceAdd, Nat.reduceBEq, ST]; exact see59ea0) ?_; simp (maxSteps := 400000) (dsimp := false) only [axs, axw, aresL, afill, Value.oneCell', Nat.reduceLT, Nat.reduceLeDiff, Nat.reduceEqDiff, Nat.reduceAdd, Nat.reduceMul, Nat.reduceSub, Nat.reduceBEq, Int.reduceLE, Int.reduceLT, Int.reduceToNat, Int.reduceNeg, Int.reduceEq, axt, ftK, ft3, AAll, ftQ, ST, tys]
    refine ADraw.via (fun st => st.t 4 = .ptr (n + 1 + 1) 24 0 0 ∧ st.t 5 = .ptr (n + 1 + 1 + 1) 5 0 0 ∧ st.t 11 = .ptr (n + 1 + 1 + 1 + 1 + 1) 24 0 0 ∧ st.t 12 = .lst 2 (PR O) ∧ n + 1 + 1 + 1 + 1 + 1 + 1 + 1 + 1 + 1 < st.n ∧ st.H (n + 1 + 1) = some (.obj 50 24 [[.sc (.int .i64 0), .sc (.int .i64 0), .sc (.slice none 0 0), .sc (.int .i64 0), .sc (.slice none 0 0), .sc (.slice none 0 0), .sc (.slice none 0 0), .sc (.int .i64 0), .sc (.slice none 0 0), .sc (.slice none 0 0), .sc (.slice none 0 0), .sc (.int .i64 0), .sc (.int .i64 0), .sc (.slice none 0 0), .sc (.slice none 0 0), .sc (.slice none 0 0), .sc (.slice none 0 0), .sc (.int .i64 0), .sc (.slice none 0 0), .sc (.slice none 0 0), .sc (.slice none 0 0), .sc (.int .i64 0), .sc (.int .i64 0), .sc (.int .i64 0)]] false) ∧ st.H (n + 1 + 1 + 1) = some (.obj 61 5 [[.sc (.bool false), .sc (.int .u64 0), .sc (.int .i64 0), .sc (.slice none 0 0), .sc (.int .i64 0)]] false) ∧ st.H (n + 1 + 1 + 1 + 1 + 1) = some (.obj 50 24 [[.sc (.int .i64 π.p), (π.cel s2).a1.v, (π.cel s2).a2.v, (π.cel s2).a3.v, (π.cel s2).a4.v, (π.cel s2).a5.v, (π.cel s2).a6.v, (π.cel s2).a7.v, (π.cel s2).a8.v, (π.cel s2).a9.v, (π.cel s2).a10.v, (π.cel s2).a11.v, (π.cel s2).a12.v, (π.cel s2).a13.v, (π.cel s2).a14.v, (π.cel s2).a15.v, (π.cel s2).a16.v, (π.cel s2).a17.v, (π.cel s2).a18.v, (π.cel s2).a19.v, .sl (n + 1 + 1 + 1 + 1 + 1 + 1 + 1 + 1 + 1) 2 0 (Q.length + 1), .sc (.int .i64 x.h), .sc (.int .i64 x.m), .sc (.int .i64 e2)]] false) ∧ st.H (n + 1 + 1 + 1 + 1 + 1 + 1 + 1 + 1 + 1) = some (.obj 56 2 (PR (Q ++ [(o.key, o.val)])) false)) ?_ ?_
    · refine from_st (F := ADraw _ _ _ _ _) (fun st => st.n = n + 1 + 1 + 1 + 1 + 1 + 1 ∧ st.t 3 = .ptr (n + 1) 4 0 0 ∧ st.t 4 = .ptr (n + 1 + 1) 24 0 0 ∧ st.t 5 = .ptr (n + 1 + 1 + 1) 5 0 0 ∧ st.t 11 = .ptr (n + 1 + 1 + 1 + 1 + 1) 24 0 0 ∧ st.t 12 = .lst 2 (PR O) ∧ st.H (n + 1) = some (.obj 65 4 [[.sc (.int .i64 o.kind), .sc (.int .u64 o.key), .sc (.int .u64 o.val), .sc (.int .i64 o.n)]] false) ∧ st.H (n + 1 + 1) = some (.obj 50 24 [[.sc (.int .i64 0), .sc (.int .i64 0), .sc (.slice none 0 0), .sc (.int .i64 0), .sc (.slice none 0 0), .sc (.slice none 0 0), .sc (.slice none 0 0), .sc (.int .i64 0), .sc (.slice none 0 0), .sc (.slice none 0 0), .sc (.slice none 0 0), .sc (.int .i64 0), .sc (.int .i64 0), .sc (.slice none 0 0), .sc (.slice none 0 0), .sc (.slice none 0 0), .sc (.slice none 0 0), .sc (.int .i64 0), .sc (.slice none 0 0), .sc (.slice none 0 0), .sc (.slice none 0 0), .sc (.int .i64 0), .sc (.int .i64 0), .sc (.int .i64 0)]] false) ∧ st.H (n + 1 + 1 + 1) = some (.obj 61 5 [[.sc (.bool false), .sc (.int .u64 0), .sc (.int .i64 0), .sc (.slice none 0 0), .sc (.int .i64 0)]] false) ∧ st.H (n + 1 + 1 + 1 + 1 + 1) = some (.obj 50 24 [[.sc (.int .i64 π.p), (π.cel s2).a1.v, (π.cel s2).a2.v, (π.cel s2).a3.v, (π.cel s2).a4.v, (π.cel s2).a5.v, (π.cel s2).a6.v, (π.cel s2).a7.v, (π.cel s2).a8.v, (π.cel s2).a9.v, (π.cel s2).a10.v, (π.cel s2).a11.v, (π.cel s2).a12.v, (π.cel s2).a13.v, (π.cel s2).a14.v, (π.cel s2).a15.v, (π.cel s2).a16.v, (π.cel s2).a17.v, (π.cel s2).a18.v, (π.cel s2).a19.v, .lst 2 (PR Q), .sc (.int .i64 x.h), .sc (.int .i64 x.m), .sc (.int .i64 e2)]] false)) ⟨rfl, rfl, rfl, rfl, rfl, rfl, by simp [upd, neS], by simp [upd, neS], by simp [upd, neS], by simp [upd, neS]⟩ ?_
      rintro ⟨t0, H0', n0⟩ ⟨rfl, h3, h4, h5, h11, h12, g1, g2, g3, g5⟩
      refine ADraw.tree3 [] [(1, true), (2, true), (4, true), (6, true)] 8 (.fork [(0, true)] (.leaf [(3, true), (5, true), (7, true), (8, true), (9, true), (10, true), (11, true), (12, true)]) (.fork [(5, true)] (.leaf [(3, true), (7, true), (8, true), (9, true), (10, true), (11, true), (12, true)]) (.fork [(7, true), (8, true)] (.leaf [(3, true), (9, true), (10, true), (11, true), (12, true)]) (.leaf [(9, true), (3, true), (10, true), (11, true), (12, true)]) (.leaf [(9, true), (3, true), (10, true), (11, true), (12, true)])) (.fork [(7, true), (8, true)] (.leaf [(3, true), (9, true), (10, true), (11, true), (12, true)]) (.leaf [(9, true), (3, true), (10, true), (11, true), (12, true)]) (.leaf [(9, true), (3, true), (10, true), (11, true), (12, true)]))) (.fork [(7, true)] (.leaf [(3, true), (5, true), (8, true), (9, true), (10, true), (11, true), (12, true)]) (.fork [(5, true), (8, true)] (.leaf [(3, true), (9, true), (10, true), (11, true), (12, true)]) (.leaf [(9, true), (3, true), (10, true), (11, true), (12, true)]) (.leaf [(9, true), (3, true), (10, true), (11, true), (12, true)])) (.fork [(5, true), (8, true)] (.leaf [(3, true), (9, true), (10, true), (11, true), (12, true)]) (.leaf [(9, true), (3, true), (10, true), (11, true), (12, true)]) (.leaf [(9, true), (3, true), (10, true), (11, true), (12, true)])))) (.fork [(5, true)] (.fork [(0, true)] (.leaf [(3, true), (7, true), (8, true), (9, true), (10, true), (11, true), (12, true)]) (.fork [(7, true), (8, true)] (.leaf [(3, true), (9, true), (10, true), (11, true), (12, true)]) (.leaf [(9, true), (3, true), (10, true), (11, true), (12, true)]) (.leaf [(9, true), (3, true), (10, true), (11, true), (12, true)])) (.fork [(7, true), (8, true)] (.leaf [(3, true), (9, true), (10, true), (11, true), (12, true)]) (.leaf [(9, true), (3, true), (10, true), (11, true), (12, true)]) (.leaf [(9, true), (3, true), (10, true), (11, true), (12, true)]))) (.fork [(7, true), (8, true)] (.fork [(0, true)] (.leaf [(3, true), (9, true), (10, true), (11, true), (12, true)]) (.leaf [(9, true), (3, true), (10, true), (11, true), (12, true)]) (.leaf [(9, true), (3, true), (10, true), (11, true), (12, true)])) (.leaf [(9, true), (0, true), (3, true), (10, true), (11, true), (12, true)]) (.leaf [(9, true), (0, true), (3, true), (10, true), (11, true), (12, true)])) (.fork [(7, true), (8, true)] (.fork [(0, true)] (.leaf [(3, true), (9, true), (10, true), (11, true), (12, true)]) (.leaf [(9, true), (3, true), (10, true), (11, true), (12, true)]) (.leaf [(9, true), (3, true), (10, true), (11, true), (12, true)])) (.leaf [(9, true), (0, true), (3, true), (10, true), (11, true), (12, true)]) (.leaf [(9, true), (0, true), (3, true), (10, true), (11, true), (12, true)]))) (.fork [(7, true)] (.fork [(0, true)] (.leaf [(3, true), (5, true), (8, true), (9, true), (10, true), (11, true), (12, true)]) (.fork [(5, true), (8, true)] (.leaf [(3, true), (9, true), (10, true), (11, true), (12, true)]) (.leaf [(9, true), (3, true), (10, true), (11, true), (12, true)]) (.leaf [(9, true), (3, true), (10, true), (11, true), (12, true)])) (.fork [(5, true), (8, true)] (.leaf [(3, true), (9, true), (10, true), (11, true), (12, true)]) (.leaf [(9, true), (3, true), (10, true), (11, true), (12, true)]) (.leaf [(9, true), (3, true), (10, true), (11, true), (12, true)]))) (.fork [(5, true), (8, true)] (.fork [(0, true)] (.leaf [(3, true), (9, true), (10, true), (11, true), (12, true)]) (.leaf [(9, true), (3, true), (10, true), (11, true), (12, true)]) (.leaf [(9, true), (3, true), (10, true), (11, true), (12, true)])) (.leaf [(9, true), (0, true), (3, true), (10, true), (11, true), (12, true)]) (.leaf [(9, true), (0, true), (3, true), (10, true), (11, true), (12, true)])) (.fork [(5, true), (8, true)] (.fork [(0, true)] (.leaf [(3, true), (9, true), (10, true), (11, true), (12, true)]) (.leaf [(9, true), (3, true), (10, true), (11, true), (12, true)]) (.leaf [(9, true), (3, true), (10, true), (11, true), (12, true)])) (.leaf [(9, true), (0, true), (3, true), (10, true), (11, true), (12, true)]) (.leaf [(9, true), (0, true), (3, true), (10, true), (11, true), (12, true)]))) mixed (by kernel_rfl) ?_
      simp only at h3 h4 h5 h11 h12 g1 g2 g3 g5
      simp (maxSteps := 400000) (dsimp := false) only [h3, h4, h5, h11, h12, g1, g2, g3, g5, PR_len, b1, b2, b3, b4, PR_snoc, axs, axw, aresL, afill, Value.oneCell', Nat.reduceLT, Nat.reduceLeDiff, Nat.reduceEqDiff, Nat.reduceAdd, Nat.reduceMul, Nat.reduceSub, Nat.reduceBEq, Int.reduceLE, Int.reduceLT, Int.reduceToNat, Int.reduceNeg, Int.reduceEq, axt, ftK, ft3, AAll, ftQ, ST, tys]
      all_goals refine AFork3.intro ?_ ?_ ?_
      all_goals simp (maxSteps := 400000) (dsimp := false) only [h3, h4, h5, h11, h12, g1, g2, g3, g5, PR_len, b1, b2, b3, b4, PR_snoc, axs, axw, aresL, afill, Value.oneCell', Nat.reduceLT, Nat.reduceLeDiff, Nat.reduceEqDiff, Nat.reduceAdd, Nat.reduceMul, Nat.reduceSub, Nat.reduceBEq, Int.reduceLE, Int.reduceLT, Int.reduceToNat, Int.reduceNeg, Int.reduceEq, axt, ftK, ft3, AAll, ftQ, ST, tys]
      all_goals try refine AFork3.intro ?_ ?_ ?_
      all_goals try simp (maxSteps := 400000) (dsimp := false) only [h3, h4, h5, h11, h12, g1, g2, g3, g5, PR_len, b1, b2, b3, b4, PR_snoc, axs, axw, aresL, afill, Value.oneCell', Nat.reduceLT, Nat.reduceLeDiff, Nat.reduceEqDiff, Nat.reduceAdd, Nat.reduceMul, Nat.reduceSub, Nat.reduceBEq, Int.reduceLE, Int.reduceLT, Int.reduceToNat, Int.reduceNeg, Int.reduceEq, axt, ftK, ft3, AAll, ftQ, ST, tys]
      all_goals try refine AFork3.intro ?_ ?_ ?_
      all_goals try simp (maxSteps := 400000) (dsimp := false) only [h3, h4, h5, h11, h12, g1, g2, g3, g5, PR_len, b1, b2, b3, b4, PR_snoc, axs, axw, aresL, afill, Value.oneCell', Nat.reduceLT, Nat.reduceLeDiff, Nat.reduceEqDiff, Nat.reduceAdd, Nat.reduceMul, Nat.reduceSub, Nat.reduceBEq, Int.reduceLE, Int.reduceLT, Int.reduceToNat, Int.reduceNeg, Int.reduceEq, axt, ftK, ft3, AAll, ftQ, ST, tys]
      all_goals try refine AFork3.intro ?_ ?_ ?_
      all_goals try simp (maxSteps := 400000) (dsimp := false) only [h3, h4, h5, h11, h12, g1, g2, g3, g5, PR_len, b1, b2, b3, b4, PR_snoc, axs, axw, aresL, afill, Value.oneCell', Nat.reduceLT, Nat.reduceLeDiff, Nat.reduceEqDiff, Nat.reduceAdd, Nat.reduceMul, Nat.reduceSub, Nat.reduceBEq, Int.reduceLE, Int.reduceLT, Int.reduceToNat, Int.reduceNeg, Int.reduceEq, axt, ftK, ft3, AAll, ftQ, ST, tys]
      all_goals try refine AFork3.intro ?_ ?_ ?_
      all_goals try simp (maxSteps := 400000) (dsimp := false) only [h3, h4, h5, h11, h12, g1, g2, g3, g5, PR_len, b1, b2, b3, b4, PR_snoc, axs, axw, aresL, afill, Value.oneCell', Nat.reduceLT, Nat.reduceLeDiff, Nat.reduceEqDiff, Nat.reduceAdd, Nat.reduceMul, Nat.reduceSub, Nat.reduceBEq, Int.reduceLE, Int.reduceLT, Int.reduceToNat, Int.reduceNeg, Int.reduceEq, axt, ftK, ft3, AAll, ftQ, ST, tys]
      all_goals first | omega | trace_state
    · rintro st hb ⟨h4, h5, h11, h12, hlt0, g2, g3, g5, g9⟩
      have hne : (¬ n + 1 + 1 = n + 1 + 1 + 1 ∧ ¬ n + 1 + 1 + 1 = n + 1 + 1) ∧ (¬ n + 1 + 1 = n + 1 + 1 + 1 + 1 + 1 ∧ ¬ n + 1 + 1 + 1 = n + 1 + 1 + 1 + 1 + 1 ∧ ¬ n + 1 + 1 + 1 + 1 + 1 = n + 1 + 1 ∧ ¬ n + 1 + 1 + 1 + 1 + 1 = n + 1 + 1 + 1) := by omega
      simp (maxSteps := 400000) (dsimp := false) only [h4, h5, h11, h12, g2, g3, g5, g9, hne, axs, axw, aresL, afill, Value.oneCell', Nat.reduceLT, Nat.reduceLeDiff, Nat.reduceEqDiff, Nat.reduceAdd, Nat.reduceMul, Nat.reduceSub, Nat.reduceBEq, Int.reduceLE, Int.reduceLT, Int.reduceToNat, Int.reduceNeg, Int.reduceEq, axt, ftK, ft3, AAll, ftQ, ST, tys]
      have hsee : ∀ (H : AH), H (n + 1 + 1 + 1 + 1 + 1 + 1 + 1 + 1 + 1) = st.H (n + 1 + 1 + 1 + 1 + 1 + 1 + 1 + 1 + 1) → Sees H true (.sl (n + 1 + 1 + 1 + 1 + 1 + 1 + 1 + 1 + 1) 2 0 (Q.length + 1)) (.lst 2 (PR (Q ++ [(o.key, o.val)]))) := fun H e => Live.sees (te := 56) (Live.mk (e.trans g9) (by simp [PR_len])) (noIdsE_PR _)
      refine ⟨_, rfl, Sees.tup ?_⟩
      simp only [SeesL]
      repeat' (first | exact trivial | exact Sees.sc | exact Sees.same (NV.ok' _) | exact hsee _ ((upd_ne _ _ (by omega)).trans (upd_ne _ _ (by omega))) | exact Sees.same (by simp [noIds, noIdsL, noIdsE_PR]) | refine Sees.agg ?_ | refine And.intro ?_ ?_ | simp only [SeesL])
end Go.Al
