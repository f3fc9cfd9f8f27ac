/- A map that forgets: operations and answers, one behind the other, by the program. Conditions: the rows are short. -/
import Derived.Test.YtkoimgeckkodhaaLo6
set_option linter.unusedVariables false
set_option linter.unusedSimpArgs false
set_option maxRecDepth 20000
set_option maxHeartbeats 6400000
-- NOIDS: noIdsE_PR, noIdsE_OL, noIdsE_AL
-- LENS: PR_len, OL_len, AL_len
namespace Go.Al
open Go.Proofs
def OL (l : List LOp) : List (List AV) := l.map LOp.cells
theorem OL_len (l : List LOp) : (OL l).length = l.length := by simp [OL]
theorem OL_get {l : List LOp} {p : Nat} {x : LOp} (h : l[p]? = some x) : (OL l)[p]? = some [.sc (.int .i64 x.kind), .sc (.int .u64 x.key), .sc (.int .u64 x.val), .sc (.int .i64 x.n)] := by simp [OL, h, LOp.cells]
theorem noIdsE_OL (l : List LOp) : noIdsE (OL l) = true := noIdsE_map _ (fun x => by simp [LOp.cells, noIdsL, noIds]) l
def AL (l : List LAns) : List (List AV) := l.map LAns.cells
theorem AL_len (l : List LAns) : (AL l).length = l.length := by simp [AL]
theorem AL_get {l : List LAns} {p : Nat} {x : LAns} (h : l[p]? = some x) : (AL l)[p]? = some [.sc (.bool x.hit), .sc (.int .u64 x.val), .sc (.int .i64 x.n), .lst 2 (PR x.out), .sc (.int .i64 x.err)] := by simp [AL, h, LAns.cells]
theorem noIdsE_AL (l : List LAns) : noIdsE (AL l) = true := noIdsE_map _ (fun x => by simp [LAns.cells, noIdsL, noIds, noIdsE_PR]) l
theorem OL_take (l : List LOp) (k : Nat) : (OL l).take k = OL (l.take k) := by simp [OL]
theorem AL_take (l : List LAns) (k : Nat) : (AL l).take k = AL (l.take k) := by simp [AL]
def o0 : LOp := ⟨0, 0, 0, 0⟩
def a0 : LAns := ⟨false, 0, 0, [], 0⟩
/-- The map behind so many operations. -/
def mapAt (l : List LOp) (bs : List LAns) : Nat → List (Int × Int)
  | 0 => []
  | i + 1 => behindM (mapAt l bs i) (l.getD i o0) (bs.getD i a0)
def fitAt (l : List LOp) (bs : List LAns) (i : Nat) : Bool := decide (i < bs.length) && fitsB (mapAt l bs i) (l.getD i o0) (bs.getD i a0)
/-- The first place that is wrong, among so many. -/
def wrongN (l : List LOp) (bs : List LAns) : Option Nat := (List.range l.length).find? fun i => !fitAt l bs i
def wkN (l : List LOp) (bs : List LAns) : Int := match wrongN l bs with | some i => i | none => if bs.length > l.length then l.length else -1
def wkM (l : List LOp) (bs : List LAns) : List (Int × Int) := match wrongN l bs with | some i => mapAt l bs i | none => mapAt l bs l.length
section
variable {l : List LOp} {bs : List LAns}
theorem behindM_len (m : List (Int × Int)) (o : LOp) (a : LAns) : (behindM m o a).length ≤ m.length + 1 := by
  have := stay_len (fun x => decide (x ∈ a.out)) m
  have e : (rest m a.out).length ≤ m.length := this
  unfold behindM
  split
  · split
    · rw [List.length_set]; omega
    · rw [List.length_append]; simp; omega
  · split
    · rw [List.length_eraseIdx]; split <;> omega
    · omega
theorem mapAt_len (l : List LOp) (bs : List LAns) : ∀ i, (mapAt l bs i).length ≤ i
  | 0 => Nat.le_refl _
  | i + 1 => by
    have h1 := behindM_len (mapAt l bs i) (l.getD i o0) (bs.getD i a0)
    have h2 := mapAt_len l bs i
    show (behindM _ _ _).length ≤ _
    omega
theorem wrongN_at {p : Nat} (hp : p < l.length) (hf : fitAt l bs p = false) (hq : ∀ q, q < p → fitAt l bs q = true) : wrongN l bs = some p := by
  unfold wrongN
  rw [List.find?_range_eq_some]
  exact ⟨by rw [hf]; rfl, List.mem_range.2 hp, fun j hj => by rw [hq j hj]; rfl⟩
theorem wrongN_none (hq : ∀ q, q < l.length → fitAt l bs q = true) : wrongN l bs = none := by
  unfold wrongN
  rw [List.find?_eq_none]
  intro x hx
  rw [hq x (List.mem_range.1 hx)]
  simp
theorem wrongN_cases (l : List LOp) (bs : List LAns) : (wrongN l bs = none ∧ ∀ q, q < l.length → fitAt l bs q = true) ∨ ∃ p, wrongN l bs = some p ∧ p < l.length ∧ fitAt l bs p = false ∧ ∀ q, q < p → fitAt l bs q = true := by
  cases e : wrongN l bs with
  | none =>
    unfold wrongN at e
    rw [List.find?_eq_none] at e
    exact .inl ⟨rfl, fun q hq => by have := e q (List.mem_range.2 hq); simpa using this⟩
  | some p =>
    unfold wrongN at e
    rw [List.find?_range_eq_some] at e
    obtain ⟨h1, h2, h3⟩ := e
    exact .inr ⟨p, rfl, List.mem_range.1 h2, by simpa using h1, fun q hq => by have := h3 q hq; simpa using this⟩
end
theorem PCalls.nilArg {P : Program} {f : FuncId} {z : Nat} {args : List AV} {r : AV} (h : PCalls P f (.lst z [] :: args) r) : PCalls P f (.sc (.slice none 0 0) :: args) r :=
  ⟨h.1, fun w B β n vs hb hr => h.2 w B β n vs hb (by
    simp only [RepL] at hr ⊢
    obtain ⟨u, us, e, h1, h2⟩ := hr
    refine ⟨u, us, e, ?_, h2⟩
    simp only [RepV] at h1 ⊢
    exact .inl ⟨⟨none, h1⟩, trivial⟩)⟩
theorem cWalk (l : List LOp) (bs : List LAns) (hl : l.length ≤ 1000) (ho : ∀ a ∈ bs, a.out.length ≤ 1000) (hbs : bs.length ≤ 1000000) : PCalls Try.prog 19 [.lst 4 (OL l), .lst 5 (AL bs)] (.tup [.sc (.int .i64 (wkN l bs)), .lst 2 (PR (wkM l bs))]) := by
  refine PCalls.intro2 Try.func19 rfl rfl Try.ntmps19 Try.results19 (by simp) fun n => ?_; simp (maxSteps := 400000) (dsimp := false) only [OL_len, axs, axw, aresL, afill, Value.oneCell', Nat.reduceLT, Nat.reduceLeDiff, Nat.reduceEqDiff, Nat.reduceAdd, Nat.reduceMul, Nat.reduceSub, Nat.reduceBEq, Int.reduceLE, Int.reduceLT, Int.reduceToNat, Int.reduceNeg, Int.reduceEq, axt, ftK, ft3, AAll, ftQ, tys]
  refine ALoop.upto l.length (fun p s => s.t 1 = .lst 5 (AL bs) ∧ s.t 0 = .lst 4 (OL l) ∧ s.t 9 = .lst 4 (OL l) ∧ s.t 10 = .sc (.int .i64 l.length) ∧ s.t 11 = .sc (.int .i64 p) ∧ (∀ q, q < p → fitAt l bs q = true) ∧ ∃ v, s.t 6 = v ∧ ((v = .sc (.slice none 0 0) ∧ mapAt l bs p = []) ∨ v = .lst 2 (PR (mapAt l bs p)))) ⟨rfl, rfl, rfl, rfl, rfl, fun q hq => absurd hq (Nat.not_lt_zero q), _, rfl, .inl ⟨rfl, rfl⟩⟩ ?_
  rintro p s hp hb ⟨h1, h0, h9, h10, h11, hfit, v, h6, hv⟩
  have hs : ∀ H, Sees H true v (.lst 2 (PR (mapAt l bs p))) := by
    intro H
    rcases hv with ⟨rfl, e⟩ | rfl
    · rw [e]; exact Sees.none
    · exact Sees.same (by simp [noIds, noIdsE_PR])
  have hml := mapAt_len l bs p
  rcases Nat.lt_or_ge p l.length with hlt | hge
  · obtain ⟨o, hx, hp0, hpl, hw, hT, hD⟩ := idx hlt (by omega)
    have hg := OL_get hx
    have hgo : l.getD p o0 = o := by rw [List.getD_eq_getElem?_getD, hx]; rfl
    by_cases hba : p < bs.length
    · obtain ⟨a, ha⟩ : ∃ a, bs[p]? = some a := ⟨_, List.getElem?_eq_getElem hba⟩
      have hga := AL_get ha
      have hgb : bs.getD p a0 = a := by rw [List.getD_eq_getElem?_getD, ha]; rfl
      have hal := ho a (List.mem_of_getElem? ha)
      have hpb : (p : Int) < bs.length := by omega
      have nge : ¬ (p : Int) ≥ bs.length := by omega
      have hfa : fitAt l bs p = fitsB (mapAt l bs p) o a := by unfold fitAt; rw [decide_eq_true hba, Bool.true_and, hgo, hgb]
      have hms : mapAt l bs (p + 1) = behindM (mapAt l bs p) o a := by show behindM _ _ _ = _; rw [hgo, hgb]
      have cf : PCalls Try.prog 24 [v, .agg o.cells, .agg a.cells] (.sc (.bool (fitsB (mapAt l bs p) o a))) := by
        rcases hv with ⟨rfl, e⟩ | rfl
        · rw [e]; exact (cFits [] o a (by simp) (by omega)).nilArg
        · exact cFits _ o a (by omega) (by omega)
      have cb : PCalls Try.prog 25 [v, .agg o.cells, .agg a.cells] (.lst 2 (PR (behindM (mapAt l bs p) o a))) := by
        rcases hv with ⟨rfl, e⟩ | rfl
        · rw [e]; exact (cBehind [] o a (by simp) (by omega)).nilArg
        · exact cBehind _ o a (by omega) (by omega)
      unfold LOp.cells LAns.cells at cf cb
      clear hv
      simp (maxSteps := 400000) (dsimp := false) only [h0, h1, h6, h9, h10, h11, hp0, hpl, hg, OL_len, axs, axw, aresL, afill, Value.oneCell', Nat.reduceLT, Nat.reduceLeDiff, Nat.reduceEqDiff, Nat.reduceAdd, Nat.reduceMul, Nat.reduceSub, Nat.reduceBEq, Int.reduceLE, Int.reduceLT, Int.reduceToNat, Int.reduceNeg, Int.reduceEq, axt, ftK, ft3, AAll, ftQ, tys]
      refine ADraw.planR [] [(0, true), (1, true), (2, true), (3, true), (4, true), (5, true), (6, true), (7, true), (8, true), (9, true), (10, true), (11, true), (12, true), (13, true)] [(0, false), (0, false), (0, false), (0, false), (0, false), (0, false), (0, false), (0, false), (0, false), (0, false), (0, false), (0, false), (0, false), (0, false)] mixed (by kernel_rfl) (by kernel_rfl) ?_
      simp (maxSteps := 400000) (dsimp := false) only [h0, h1, h6, h9, h10, h11, hp0, hpl, hpb, nge, hg, hga, OL_len, AL_len, axs, axw, aresL, afill, Value.oneCell', Nat.reduceLT, Nat.reduceLeDiff, Nat.reduceEqDiff, Nat.reduceAdd, Nat.reduceMul, Nat.reduceSub, Nat.reduceBEq, Int.reduceLE, Int.reduceLT, Int.reduceToNat, Int.reduceNeg, Int.reduceEq, axt, ftK, ft3, AAll, ftQ, tys]
      cases hf : fitsB (mapAt l bs p) o a with
      | true =>
        rw [hf] at cf hfa
        refine ACallP.pure rfl (cf) ?_; simp (maxSteps := 400000) (dsimp := false) only [h0, h1, h6, h9, h10, h11, hp0, hpl, hpb, hg, hga, OL_len, AL_len, axs, axw, aresL, afill, Value.oneCell', Nat.reduceLT, Nat.reduceLeDiff, Nat.reduceEqDiff, Nat.reduceAdd, Nat.reduceMul, Nat.reduceSub, Nat.reduceBEq, Int.reduceLE, Int.reduceLT, Int.reduceToNat, Int.reduceNeg, Int.reduceEq, axt, ftK, ft3, AAll, ftQ, tys]
        refine ADraw.planR [] [(0, true), (1, true), (2, true), (3, true), (4, true), (5, true), (6, true), (7, true)] [(0, false), (0, false), (0, false), (0, false), (0, false), (0, false), (0, false), (0, false)] mixed (by kernel_rfl) (by kernel_rfl) ?_
        simp (maxSteps := 400000) (dsimp := false) only [h0, h1, h6, h9, h10, h11, hp0, hpl, hpb, hg, hga, OL_len, AL_len, axs, axw, aresL, afill, Value.oneCell', Nat.reduceLT, Nat.reduceLeDiff, Nat.reduceEqDiff, Nat.reduceAdd, Nat.reduceMul, Nat.reduceSub, Nat.reduceBEq, Int.reduceLE, Int.reduceLT, Int.reduceToNat, Int.reduceNeg, Int.reduceEq, axt, ftK, ft3, AAll, ftQ, tys]
        refine ACallP.pure rfl (cb) ?_; simp (maxSteps := 400000) (dsimp := false) only [h0, h1, h6, h9, h10, h11, hw, axs, axw, aresL, afill, Value.oneCell', Nat.reduceLT, Nat.reduceLeDiff, Nat.reduceEqDiff, Nat.reduceAdd, Nat.reduceMul, Nat.reduceSub, Nat.reduceBEq, Int.reduceLE, Int.reduceLT, Int.reduceToNat, Int.reduceNeg, Int.reduceEq, axt, ftK, ft3, AAll, ftQ, tys]
        refine ⟨hlt, fun q hq => ?_, _, rfl, .inr (by rw [hms])⟩
        rcases Nat.lt_succ_iff_lt_or_eq.1 hq with h | rfl
        · exact hfit q h
        · exact hfa
      | false =>
        rw [hf] at cf hfa
        have hwn := wrongN_at hlt hfa hfit
        refine ACallP.pure rfl (cf) ?_; simp (maxSteps := 400000) (dsimp := false) only [h0, h1, h6, h9, h10, h11, hp0, hpl, hpb, hg, hga, OL_len, AL_len, axs, axw, aresL, afill, Value.oneCell', Nat.reduceLT, Nat.reduceLeDiff, Nat.reduceEqDiff, Nat.reduceAdd, Nat.reduceMul, Nat.reduceSub, Nat.reduceBEq, Int.reduceLE, Int.reduceLT, Int.reduceToNat, Int.reduceNeg, Int.reduceEq, axt, ftK, ft3, AAll, ftQ, tys]
        have e1 : wkN l bs = (p : Int) := by unfold wkN; rw [hwn]
        have e2 : wkM l bs = mapAt l bs p := by unfold wkM; rw [hwn]
        rw [e1, e2]
        exact ⟨_, rfl, Sees.tup (by simp only [SeesL]; exact ⟨Sees.sc, hs _, trivial⟩)⟩
    · have nge : (p : Int) ≥ bs.length := by omega
      have hfa : fitAt l bs p = false := by unfold fitAt; rw [decide_eq_false hba]; rfl
      have hwn := wrongN_at hlt hfa hfit
      simp (maxSteps := 400000) (dsimp := false) only [h0, h1, h6, h9, h10, h11, hp0, hpl, hg, OL_len, axs, axw, aresL, afill, Value.oneCell', Nat.reduceLT, Nat.reduceLeDiff, Nat.reduceEqDiff, Nat.reduceAdd, Nat.reduceMul, Nat.reduceSub, Nat.reduceBEq, Int.reduceLE, Int.reduceLT, Int.reduceToNat, Int.reduceNeg, Int.reduceEq, axt, ftK, ft3, AAll, ftQ, tys]
      refine ADraw.planR [] [(0, true), (1, true), (2, true), (3, true), (4, true), (5, true), (6, true), (7, true), (8, true), (9, true), (10, true), (11, true), (12, true), (13, true)] [(0, false), (0, false), (0, false), (0, false), (0, false), (0, false), (0, false), (0, false), (0, false), (0, false), (0, false), (0, false), (0, false), (0, false)] mixed (by kernel_rfl) (by kernel_rfl) ?_
      simp (maxSteps := 400000) (dsimp := false) only [h0, h1, h6, h9, h10, h11, hp0, hpl, nge, hg, OL_len, AL_len, axs, axw, aresL, afill, Value.oneCell', Nat.reduceLT, Nat.reduceLeDiff, Nat.reduceEqDiff, Nat.reduceAdd, Nat.reduceMul, Nat.reduceSub, Nat.reduceBEq, Int.reduceLE, Int.reduceLT, Int.reduceToNat, Int.reduceNeg, Int.reduceEq, axt, ftK, ft3, AAll, ftQ, tys]
      have e1 : wkN l bs = (p : Int) := by unfold wkN; rw [hwn]
      have e2 : wkM l bs = mapAt l bs p := by unfold wkM; rw [hwn]
      rw [e1, e2]
      exact ⟨_, rfl, Sees.tup (by simp only [SeesL]; exact ⟨Sees.sc, hs _, trivial⟩)⟩
  · have hpl : ¬ (p : Int) < l.length := by omega
    have ep : p = l.length := by omega
    subst ep
    have hwn := wrongN_none hfit
    by_cases hgt : (bs.length : Int) > l.length
    · simp (maxSteps := 400000) (dsimp := false) only [h0, h1, h6, h9, h10, h11, hpl, hgt, OL_len, AL_len, axs, axw, aresL, afill, Value.oneCell', Nat.reduceLT, Nat.reduceLeDiff, Nat.reduceEqDiff, Nat.reduceAdd, Nat.reduceMul, Nat.reduceSub, Nat.reduceBEq, Int.reduceLE, Int.reduceLT, Int.reduceToNat, Int.reduceNeg, Int.reduceEq, axt, ftK, ft3, AAll, ftQ, tys]
      have e1 : wkN l bs = (l.length : Int) := by unfold wkN; rw [hwn]; exact if_pos (by omega)
      have e2 : wkM l bs = mapAt l bs l.length := by unfold wkM; rw [hwn]
      rw [e1, e2]
      exact ⟨_, rfl, Sees.tup (by simp only [SeesL]; exact ⟨Sees.sc, hs _, trivial⟩)⟩
    · simp (maxSteps := 400000) (dsimp := false) only [h0, h1, h6, h9, h10, h11, hpl, hgt, OL_len, AL_len, axs, axw, aresL, afill, Value.oneCell', Nat.reduceLT, Nat.reduceLeDiff, Nat.reduceEqDiff, Nat.reduceAdd, Nat.reduceMul, Nat.reduceSub, Nat.reduceBEq, Int.reduceLE, Int.reduceLT, Int.reduceToNat, Int.reduceNeg, Int.reduceEq, axt, ftK, ft3, AAll, ftQ, tys]
      have e1 : wkN l bs = -1 := by unfold wkN; rw [hwn]; exact if_neg (by omega)
      have e2 : wkM l bs = mapAt l bs l.length := by unfold wkM; rw [hwn]
      rw [e1, e2]
      exact ⟨_, rfl, Sees.tup (by simp only [SeesL]; exact ⟨Sees.sc, hs _, trivial⟩)⟩
theorem see52170 {p : Prop} (h : p := by repeat' (first | exact True.intro | exact Sees.sc | exact Sees.none | ((with_reducible refine Sees.same ?_) <;> simp [noIds, noIdsL, noIdsE, noIdsE_U, noIdsE_UU, noIdsE_PR, noIdsE_OL, noIdsE_AL] <;> fail) | (refine Live.sees ?_ ?_ <;> first | assumption | (simp [noIdsE_U, noIdsE_UU, noIdsE_PR, noIdsE_OL, noIdsE_AL] <;> fail)) | (refine Sees.obj ?_ ?_ ?_ <;> first | exact ⟨_, _, by assumption, rfl⟩ | (simp [U_len, UU_len, PR_len, OL_len, AL_len] <;> fail) | (simp [noIdsE_U, noIdsE_UU, noIdsE_PR, noIdsE_OL, noIdsE_AL] <;> fail) | (simp [U, UU, upd] <;> fail) | (simp [U, UU, upd, neS, *] <;> fail)) | (refine Sees.of_seen 3 ?_ <;> simp [seen, upd, noIdsE, noIdsL, noIds, U, UU, Nat.add_assoc] <;> fail) | refine Sees.agg ?_ | refine And.intro ?_ ?_ | simp only [SeesL])) : p := h
theorem cWrong (l : List LOp) (bs : List LAns) (hl : l.length ≤ 1000) (ho : ∀ a ∈ bs, a.out.length ≤ 1000) (hbs : bs.length ≤ 1000000) : PCalls Try.prog 11 [.lst 4 (OL l), .lst 5 (AL bs)] (.sc (.int .i64 (wkN l bs))) := by
  refine PCalls.intro2 Try.func11 rfl rfl Try.ntmps11 Try.results11 (by simp) fun n => ?_; simp (maxSteps := 400000) (dsimp := false) only [axs, axw, aresL, afill, Value.oneCell', Nat.reduceLT, Nat.reduceLeDiff, Nat.reduceEqDiff, Nat.reduceAdd, Nat.reduceMul, Nat.reduceSub, Nat.reduceBEq, Int.reduceLE, Int.reduceLT, Int.reduceToNat, Int.reduceNeg, Int.reduceEq, axt, ftK, ft3, AAll, ftQ, tys]
  refine ACallK.strict rfl (cWalk l bs hl ho hbs) (by simp only [SeesL, axs, axt, AS.ev, AS.put, upd, inHeap, Nat.reduceLT, Nat.reduceEqDiff, Nat.reduceAdd, Nat.reduceBEq]; exact see52170) ?_; simp (maxSteps := 400000) (dsimp := false) only [axs, axw, aresL, afill, Value.oneCell', Nat.reduceLT, Nat.reduceLeDiff, Nat.reduceEqDiff, Nat.reduceAdd, Nat.reduceMul, Nat.reduceSub, Nat.reduceBEq, Int.reduceLE, Int.reduceLT, Int.reduceToNat, Int.reduceNeg, Int.reduceEq, axt, ftK, ft3, AAll, ftQ, tys]
  exact ⟨_, rfl, Sees.sc⟩
theorem cLeft (l : List LOp) (bs : List LAns) (hl : l.length ≤ 1000) (ho : ∀ a ∈ bs, a.out.length ≤ 1000) (hbs : bs.length ≤ 1000000) : PCalls Try.prog 13 [.lst 4 (OL l), .lst 5 (AL bs)] (.lst 2 (PR (wkM l bs))) := by
  refine PCalls.intro2 Try.func13 rfl rfl Try.ntmps13 Try.results13 (by simp) fun n => ?_; simp (maxSteps := 400000) (dsimp := false) only [axs, axw, aresL, afill, Value.oneCell', Nat.reduceLT, Nat.reduceLeDiff, Nat.reduceEqDiff, Nat.reduceAdd, Nat.reduceMul, Nat.reduceSub, Nat.reduceBEq, Int.reduceLE, Int.reduceLT, Int.reduceToNat, Int.reduceNeg, Int.reduceEq, axt, ftK, ft3, AAll, ftQ, tys]
  refine ACallK.strict rfl (cWalk l bs hl ho hbs) (by simp only [SeesL, axs, axt, AS.ev, AS.put, upd, inHeap, Nat.reduceLT, Nat.reduceEqDiff, Nat.reduceAdd, Nat.reduceBEq]; exact see52170) ?_; simp (maxSteps := 400000) (dsimp := false) only [axs, axw, aresL, afill, Value.oneCell', Nat.reduceLT, Nat.reduceLeDiff, Nat.reduceEqDiff, Nat.reduceAdd, Nat.reduceMul, Nat.reduceSub, Nat.reduceBEq, Int.reduceLE, Int.reduceLT, Int.reduceToNat, Int.reduceNeg, Int.reduceEq, axt, ftK, ft3, AAll, ftQ, tys]
  exact ⟨_, rfl, Sees.same (by simp [noIds, noIdsE_PR])⟩
end Go.Al
