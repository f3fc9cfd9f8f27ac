/- Pairs in rows: what the library's deletions come to. Conditions: the rows are short. -/
import Derived.Test.YtkoimgeckkodhaaLo2
set_option linter.unusedVariables false
set_option linter.unusedSimpArgs false
set_option maxRecDepth 20000
set_option maxHeartbeats 3200000
-- NOIDS: noIdsE_PR
-- LENS: PR_len
namespace Go.Al
open Go.Proofs
/-- The pairs that stay. -/
def stay (t : Int × Int → Bool) (l : List (Int × Int)) : List (Int × Int) := l.filter fun x => !t x
section
variable {t : Int × Int → Bool} {l : List (Int × Int)}
theorem stay_all (h : ∀ y ∈ l, t y = false) : stay t l = l := by
  unfold stay
  rw [List.filter_eq_self]
  intro x hx
  rw [h x hx]; rfl
theorem stay_take {p : Nat} {x : Int × Int} (hx : l[p]? = some x) (ht : t x = true) (hq : ∀ (q : Nat) (y : Int × Int), q < p → l[q]? = some y → t y = false) : stay t (l.take (p + 1)) = l.take p := by
  rw [List.take_add_one, hx]
  unfold stay
  rw [List.filter_append]
  have : (l.take p).filter (fun x => !t x) = l.take p := by
    rw [List.filter_eq_self]
    intro y hy
    obtain ⟨q, hq1, rfl⟩ := List.mem_iff_getElem.1 hy
    have hq2 : q < p := by simp at hq1; omega
    have := hq q (l.take p)[q] hq2 (by rw [List.getElem_take, List.getElem?_eq_getElem])
    rw [this]; rfl
  rw [this]
  simp [ht]
theorem stay_step {j : Nat} {x : Int × Int} (hx : l[j]? = some x) : stay t (l.take (j + 1)) = stay t (l.take j) ++ (if t x then [] else [x]) := by
  rw [List.take_add_one, hx]
  unfold stay
  rw [List.filter_append]
  cases h : t x <;> simp [h]
end
theorem cDelNil (n : Nat) (g : AV) (H : AH) : HCalls Try.prog 43 [.sc (.slice none 0 0), g] H n fun v H' n' => v = .sc (.slice none 0 0) ∧ H' = H ∧ n' = n := by
  refine HCalls.walk Try.func43 rfl rfl Try.ntmps43 Try.results43 (by simp) ?_; simp (maxSteps := 400000) (dsimp := false) only [axs, axw, aresL, afill, Value.oneCell', Nat.reduceLT, Nat.reduceLeDiff, Nat.reduceEqDiff, Nat.reduceAdd, Nat.reduceMul, Nat.reduceSub, Nat.reduceBEq, Int.reduceLE, Int.reduceLT, Int.reduceToNat, Int.reduceNeg, Int.reduceEq, axt, ftK, ft3, AAll, ftQ, tys]
  refine ACallK.heap _ rfl (cIdxNil _ _ _) ?_; rintro r' H' n' ⟨rfl, eH, en⟩; obtain rfl := eH.symm; obtain rfl := en.symm; clear eH en; simp (maxSteps := 400000) (dsimp := false) only [axs, axw, aresL, afill, Value.oneCell', Nat.reduceLT, Nat.reduceLeDiff, Nat.reduceEqDiff, Nat.reduceAdd, Nat.reduceMul, Nat.reduceSub, Nat.reduceBEq, Int.reduceLE, Int.reduceLT, Int.reduceToNat, Int.reduceNeg, Int.reduceEq, axt, ftK, ft3, AAll, ftQ, tys]
  exact ⟨_, rfl, rfl⟩
theorem cDelFn (t : Int × Int → Bool) (l : List (Int × Int)) (hl : l.length ≤ 1000000) {g id te : Nat} {caps : List AV} {H : AH} {n : Nat} (hid : H id = some (.obj te 2 (PR l) false)) (hlt : id < n)
    (hf : ∀ (H' : AH) (n' : Nat), n ≤ n' → (∀ j, j < n → j ≠ id → H' j = H j) → TestF g caps t H' n') :
    HCalls Try.prog 43 [.sl id 2 0 l.length, .fn g caps] H n
      fun v H' n' => ∃ es, v = .sl id 2 0 (stay t l).length ∧ H' id = some (.obj te 2 (PR (stay t l) ++ es) false) ∧ n ≤ n' ∧ ∀ j, j < n → j ≠ id → H' j = H j := by
  refine HCalls.walk Try.func43 rfl rfl Try.ntmps43 Try.results43 (by simp) ?_; simp (maxSteps := 400000) (dsimp := false) only [axs, axw, aresL, afill, Value.oneCell', Nat.reduceLT, Nat.reduceLeDiff, Nat.reduceEqDiff, Nat.reduceAdd, Nat.reduceMul, Nat.reduceSub, Nat.reduceBEq, Int.reduceLE, Int.reduceLT, Int.reduceToNat, Int.reduceNeg, Int.reduceEq, axt, ftK, ft3, AAll, ftQ, tys]
  refine ACallK.heap _ rfl (cIdxLive t l hl hid (hf H n (Nat.le_refl _) fun _ _ _ => rfl)) ?_; rintro r' H' n' ⟨rfl, eH, en⟩; obtain rfl := eH.symm; obtain rfl := en.symm; clear eH en; simp (maxSteps := 400000) (dsimp := false) only [axs, axw, aresL, afill, Value.oneCell', Nat.reduceLT, Nat.reduceLeDiff, Nat.reduceEqDiff, Nat.reduceAdd, Nat.reduceMul, Nat.reduceSub, Nat.reduceBEq, Int.reduceLE, Int.reduceLT, Int.reduceToNat, Int.reduceNeg, Int.reduceEq, axt, ftK, ft3, AAll, ftQ, tys]
  rcases idxT_cases t l with ⟨e1, e2⟩ | ⟨p, x, e1, hpv, htx, hpq⟩
  · have hw := stay_all e2
    rw [e1]
    simp (maxSteps := 400000) (dsimp := false) only [axs, axw, aresL, afill, Value.oneCell', Nat.reduceLT, Nat.reduceLeDiff, Nat.reduceEqDiff, Nat.reduceAdd, Nat.reduceMul, Nat.reduceSub, Nat.reduceBEq, Int.reduceLE, Int.reduceLT, Int.reduceToNat, Int.reduceNeg, Int.reduceEq, axt, ftK, ft3, AAll, ftQ, tys]
    refine ⟨_, rfl, [], by rw [hw], by rw [hw, List.append_nil]; exact hid, fun _ _ _ => trivial⟩
  · have hplt : p < l.length := (List.getElem?_eq_some_iff.1 hpv).1
    have hpt := stay_take hpv htx hpq
    have hw1 : IntKind.i64.wrap ((p : Int) + 1) = ((p + 1 : Nat) : Int) := by rw [wrap_in (by omega) (by omega)]; rfl
    have hp1 : ¬ (p : Int) = -1 := by omega
    rw [e1]
    simp (maxSteps := 400000) (dsimp := false) only [hw1, hp1, axs, axw, aresL, afill, Value.oneCell', Nat.reduceLT, Nat.reduceLeDiff, Nat.reduceEqDiff, Nat.reduceAdd, Nat.reduceMul, Nat.reduceSub, Nat.reduceBEq, Int.reduceLE, Int.reduceLT, Int.reduceToNat, Int.reduceNeg, Int.reduceEq, axt, ftK, ft3, AAll, ftQ, tys]
    refine ALoop.intro (fun k s => ∃ (j i : Nat) (c : List (Int × Int)), j ≤ l.length ∧ i < j ∧ k = l.length - j ∧ s.t 0 = .sl id 2 0 l.length ∧ s.t 1 = .fn g caps ∧ s.t 5 = .sc (.int .i64 i) ∧ s.t 6 = .sc (.int .i64 j) ∧
      s.H id = some (.obj te 2 (PR c) false) ∧ n ≤ s.n ∧ (∀ q, q < n → q ≠ id → s.H q = H q) ∧ c.length = l.length ∧ i = (stay t (l.take j)).length ∧ c.take i = stay t (l.take j) ∧ c.drop j = l.drop j) (l.length - (p + 1))
      ⟨p + 1, p, l, by omega, by omega, rfl, rfl, rfl, rfl, rfl, hid, Nat.le_refl _, fun _ _ _ => rfl, rfl, ?_, ?_, rfl⟩ ?_
    · rw [hpt, List.length_take]; omega
    · rw [hpt]
    rintro k s ⟨j, i, c, hj, hij, rfl, h0, h1, h5, h6, hH, hn, hk, hcl, hi, hct, hcd⟩
    rcases Nat.lt_or_ge j l.length with jlt | jge
    · obtain ⟨y, hy, hj0, hjl, hwj, hT, hD⟩ := idx jlt (by omega)
      have hcy : c[j]? = some y := by
        have : (c.drop j)[0]? = (l.drop j)[0]? := by rw [hcd]
        simpa [List.getElem?_drop, hy] using this
      have hg := PR_get hcy
      have hwi : IntKind.i64.wrap ((i : Int) + 1) = ((i + 1 : Nat) : Int) := by rw [wrap_in (by omega) (by omega)]; rfl
      have hdn : c.drop (j + 1) = l.drop (j + 1) := by
        have : (c.drop j).drop 1 = (l.drop j).drop 1 := by rw [hcd]
        simpa [List.drop_drop] using this
      have htk := stay_step (t := t) hy
      have hne : ¬ id = s.n ∧ ¬ s.n = id := by and_intros <;> omega
      have hc := hf (upd (upd s.H s.n (some (.obj 56 2 [[.sc (.int .u64 0), .sc (.int .u64 0)]] false))) s.n (some (.obj 56 2 [[.sc (.int .u64 y.1), .sc (.int .u64 y.2)]] false))) (s.n + 1) (Nat.le_succ_of_le hn) (fun q hq hqi => (upd_ne _ _ (by omega)).trans ((upd_ne _ _ (by omega)).trans (hk q hq hqi))) _ y (Nat.le_refl _)
      have hk2 : ∀ (z1 z2 : Option AO) (q : Nat), q < n → q ≠ id → upd (upd s.H s.n z1) s.n z2 q = H q := fun z1 z2 q hq hqi => (upd_ne _ _ (by omega)).trans ((upd_ne _ _ (by omega)).trans (hk q hq hqi))
      have hH2 : ∀ (z1 z2 : Option AO), upd (upd s.H s.n z1) s.n z2 id = some (.obj te 2 (PR c) false) := fun z1 z2 => (upd_ne _ _ hne.1).trans ((upd_ne _ _ hne.1).trans hH)
      cases hty : t y with
      | false =>
        rw [hty] at hc htk
        have hi0 : (0 : Int) ≤ i := by omega
        have hil : (i : Int) < l.length := by omega
        obtain ⟨z, hz⟩ : ∃ z, c[i]? = some z := ⟨_, List.getElem?_eq_getElem (by omega)⟩
        have hgi := PR_get hz
        simp (maxSteps := 400000) (dsimp := false) only [h0, h1, h5, h6, hj0, hjl, hg, hH, PR_len, hne, axs, axw, aresL, afill, Value.oneCell', Nat.reduceLT, Nat.reduceLeDiff, Nat.reduceEqDiff, Nat.reduceAdd, Nat.reduceMul, Nat.reduceSub, Nat.reduceBEq, Int.reduceLE, Int.reduceLT, Int.reduceToNat, Int.reduceNeg, Int.reduceEq, axt, ftK, ft3, AAll, ftQ, tys]
        refine ACallK.heap _ rfl (hc) ?_; rintro r' H' n' ⟨rfl, eH, en⟩; obtain rfl := eH.symm; obtain rfl := en.symm; clear eH en; simp (maxSteps := 400000) (dsimp := false) only [h0, h1, h5, h6, hj0, hjl, hg, hH, PR_len, hne, hi0, hil, hgi, hwi, hwj, PR_set, axs, axw, aresL, afill, Value.oneCell', Nat.reduceLT, Nat.reduceLeDiff, Nat.reduceEqDiff, Nat.reduceAdd, Nat.reduceMul, Nat.reduceSub, Nat.reduceBEq, Int.reduceLE, Int.reduceLT, Int.reduceToNat, Int.reduceNeg, Int.reduceEq, axt, ftK, ft3, AAll, ftQ, tys]
        have hlen : (stay t (l.take (j + 1))).length = i + 1 := by rw [htk, List.length_append, ← hi]; rfl
        refine ⟨_, ?_, j + 1, i + 1, c.set i y, by omega, by omega, rfl, rfl, rfl, rfl, Nat.le_succ_of_le hn, ?_, by simpa using hcl, hlen.symm, ?_, ?_⟩
        · omega
        · intro q hq hqi
          rw [if_neg hqi, if_neg (by omega), if_neg (by omega)]
          exact hk q hq hqi
        · rw [htk, ← hct, List.take_add_one, List.getElem?_set_self (by omega), List.take_set_of_le (Nat.le_refl _)]
          rfl
        · rw [List.drop_set_of_lt (by omega), hdn]
      | true =>
        rw [hty] at hc htk
        simp (maxSteps := 400000) (dsimp := false) only [h0, h1, h5, h6, hj0, hjl, hg, hH, PR_len, hne, axs, axw, aresL, afill, Value.oneCell', Nat.reduceLT, Nat.reduceLeDiff, Nat.reduceEqDiff, Nat.reduceAdd, Nat.reduceMul, Nat.reduceSub, Nat.reduceBEq, Int.reduceLE, Int.reduceLT, Int.reduceToNat, Int.reduceNeg, Int.reduceEq, axt, ftK, ft3, AAll, ftQ, tys]
        refine ACallK.heap _ rfl (hc) ?_; rintro r' H' n' ⟨rfl, eH, en⟩; obtain rfl := eH.symm; obtain rfl := en.symm; clear eH en; simp (maxSteps := 400000) (dsimp := false) only [h0, h1, h5, h6, hj0, hjl, hg, hH, PR_len, hne, hwj, axs, axw, aresL, afill, Value.oneCell', Nat.reduceLT, Nat.reduceLeDiff, Nat.reduceEqDiff, Nat.reduceAdd, Nat.reduceMul, Nat.reduceSub, Nat.reduceBEq, Int.reduceLE, Int.reduceLT, Int.reduceToNat, Int.reduceNeg, Int.reduceEq, axt, ftK, ft3, AAll, ftQ, tys]
        rw [if_pos rfl, List.append_nil] at htk
        exact ⟨_, by omega, j + 1, i, c, by omega, by omega, rfl, rfl, rfl, rfl, Nat.le_succ_of_le hn, (fun q hq hqi => by rw [if_neg (by omega), if_neg (by omega)]; exact hk q hq hqi), hcl, by rw [htk]; exact hi, by rw [htk]; exact hct, hdn⟩
    · have hge : j = l.length := by omega
      subst hge
      have hi0 : (0 : Int) ≤ i := by omega
      have hil : (i : Int) ≤ l.length := by omega
      have hjl : ¬ (l.length : Int) < l.length := by omega
      simp (maxSteps := 400000) (dsimp := false) only [h0, h1, h5, h6, hH, hi0, hil, hjl, axs, axw, aresL, afill, Value.oneCell', Nat.reduceLT, Nat.reduceLeDiff, Nat.reduceEqDiff, Nat.reduceAdd, Nat.reduceMul, Nat.reduceSub, Nat.reduceBEq, Int.reduceLE, Int.reduceLT, Int.reduceToNat, Int.reduceNeg, Int.reduceEq, axt, ftK, ft3, AAll, ftQ, tys]
      refine AStepX.clear rfl rfl rfl rfl sl26 ty56 rfl (by decide) rfl rfl rfl (.inl rfl) hH (by rw [PR_len]; omega) ?_
      simp (maxSteps := 400000) (dsimp := false) only [h0, h1, h5, h6, hi0, hil, upd_upd, axs, axw, aresL, afill, Value.oneCell', Nat.reduceLT, Nat.reduceLeDiff, Nat.reduceEqDiff, Nat.reduceAdd, Nat.reduceMul, Nat.reduceSub, Nat.reduceBEq, Int.reduceLE, Int.reduceLT, Int.reduceToNat, Int.reduceNeg, Int.reduceEq, axt, ftK, ft3, AAll, ftQ, tys]
      have hw : stay t (l.take l.length) = stay t l := by rw [List.take_length]
      rw [hw] at hi hct
      refine ⟨_, rfl, List.replicate (l.length - i) [.sc (.int .u64 0), .sc (.int .u64 0)] ++ (PR c).drop (i + (l.length - i)), ?_, ?_, hn, fun q hq hqi => ?_⟩
      · first | (rw [← hi]; done) | (rw [← hi]; rfl)
      · simp only [over, PR_take, hct, List.append_assoc, List.length_replicate]
        first | done | rfl | simp
      · exact (upd_ne _ _ hqi).trans (hk q hq hqi)
theorem eraseIdx_len {l : List (Int × Int)} {i : Nat} (h : i < l.length) : (l.eraseIdx i).length = l.length - 1 := by rw [List.length_eraseIdx, if_pos h]
theorem over_mid (l : List (Int × Int)) {i : Nat} (h : i < l.length) (R : List (List AV)) : over (over (PR l) i (((PR l).drop (i + 1)).take (l.length - (i + 1)))) (i + (l.length - (i + 1))) R = PR (l.eraseIdx i) ++ (R ++ (over (PR l) i (((PR l).drop (i + 1)).take (l.length - (i + 1)))).drop (i + (l.length - (i + 1)) + R.length)) := by
  have e : ((PR l).drop (i + 1)).take (l.length - (i + 1)) = PR (l.drop (i + 1)) := by
    rw [PR_drop, List.take_of_length_le (by rw [PR_len, List.length_drop]; omega)]
  have e2 : (over (PR l) i (PR (l.drop (i + 1)))).take (i + (l.length - (i + 1))) = PR (l.eraseIdx i) := by
    unfold over
    rw [List.eraseIdx_eq_take_drop_succ, PR_append, PR_take]
    have : i + (l.length - (i + 1)) = (PR (l.take i) ++ PR (l.drop (i + 1))).length := by
      rw [List.length_append, PR_len, PR_len, List.length_take, List.length_drop]; omega
    rw [this, List.take_left']
    rfl
  rw [e]
  generalize over (PR l) i (PR (l.drop (i + 1))) = X at *
  unfold over
  rw [e2, List.append_assoc]
theorem over_end (l : List (Int × Int)) {i : Nat} (h : i + 1 = l.length) (R : List (List AV)) : over (over (PR l) i []) i R = PR (l.eraseIdx i) ++ (R ++ (over (PR l) i []).drop (i + R.length)) := by
  have e : over (PR l) i [] = PR l := by simp [over]
  have e2 : (PR l).take i = PR (l.eraseIdx i) := by
    rw [List.eraseIdx_eq_take_drop_succ, List.drop_of_length_le (by omega), List.append_nil, PR_take]
  rw [e]
  show (PR l).take i ++ R ++ _ = _
  rw [e2, List.append_assoc]
/-- A slice of known capacity told as one of any. -/
theorem HCalls.uncap {P : Program} {f : FuncId} {args : List AV} {H : AH} {n : Nat} {Q : AV → AH → Nat → Prop} (h : HCalls P f args H n fun v H' n' => ∃ id z off m c, v = .slc id z off m c ∧ Q (.sl id z off m) H' n') : HCalls P f args H n Q :=
  ⟨h.1, fun w B0 base β cargs h1 h2 h3 h4 => (h.2 w B0 base β cargs h1 h2 h3 h4).mono fun _ w' ⟨β', n', H', r, v, k1, k2, k3, k4, id, z, off, m, c, e, q⟩ => by
    subst e
    exact ⟨β', n', H', _, v, k1, k2, k3, k4.uncap, q⟩⟩
theorem cDelAt (l : List (Int × Int)) (i : Nat) (h : i < l.length) (hl : l.length ≤ 1000000) {id : Nat} {H : AH} {n : Nat} (hid : H id = some (.obj 56 2 (PR l) false)) (hlt : id < n) :
    HCalls Try.prog 47 [.sl id 2 0 l.length, .sc (.int .i64 i), .sc (.int .i64 ((i + 1 : Nat) : Int))] H n
      fun v H' n' => ∃ es, v = .sl id 2 0 (l.eraseIdx i).length ∧ H' id = some (.obj 56 2 (PR (l.eraseIdx i) ++ es) false) ∧ n' = n ∧ ∀ j, j ≠ id → H' j = H j := by
  refine HCalls.cap (by kernel_rfl) (.inr rfl) fun c hc hcm => HCalls.uncap ?_
  have hne : ¬ (i : Int) = ((i + 1 : Nat) : Int) := by omega
  refine HCalls.walk Try.func47 rfl rfl Try.ntmps47 Try.results47 (by simp) ?_; simp (maxSteps := 400000) (dsimp := false) only [axs, axw, aresL, afill, Value.oneCell', Nat.reduceLT, Nat.reduceLeDiff, Nat.reduceEqDiff, Nat.reduceAdd, Nat.reduceMul, Nat.reduceSub, Nat.reduceBEq, Int.reduceLE, Int.reduceLT, Int.reduceToNat, Int.reduceNeg, Int.reduceEq, axt, ftK, ft3, AAll, ftQ, tys]
  refine AStepX.len rfl rfl rfl rfl sl26 rfl ?_
  simp (maxSteps := 400000) (dsimp := false) only [axs, axw, aresL, afill, Value.oneCell', Nat.reduceLT, Nat.reduceLeDiff, Nat.reduceEqDiff, Nat.reduceAdd, Nat.reduceMul, Nat.reduceSub, Nat.reduceBEq, Int.reduceLE, Int.reduceLT, Int.reduceToNat, Int.reduceNeg, Int.reduceEq, axt, ftK, ft3, AAll, ftQ, tys]
  refine AStepX.cut3 (l := i) (q := ((i + 1 : Nat) : Int)) (r := l.length) rfl sl26 ty56 rfl rfl rfl rfl (by omega) (by omega) (by omega) (by omega) ?_
  simp (maxSteps := 400000) (dsimp := false) only [hne, axs, axw, aresL, afill, Value.oneCell', Nat.reduceLT, Nat.reduceLeDiff, Nat.reduceEqDiff, Nat.reduceAdd, Nat.reduceMul, Nat.reduceSub, Nat.reduceBEq, Int.reduceLE, Int.reduceLT, Int.reduceToNat, Int.reduceNeg, Int.reduceEq, axt, ftK, ft3, AAll, ftQ, tys]
  refine AStepX.len rfl rfl rfl rfl sl26 rfl ?_
  simp (maxSteps := 400000) (dsimp := false) only [hne, axs, axw, aresL, afill, Value.oneCell', Nat.reduceLT, Nat.reduceLeDiff, Nat.reduceEqDiff, Nat.reduceAdd, Nat.reduceMul, Nat.reduceSub, Nat.reduceBEq, Int.reduceLE, Int.reduceLT, Int.reduceToNat, Int.reduceNeg, Int.reduceEq, axt, ftK, ft3, AAll, ftQ, tys]
  have hcz : ¬ 0 = c := by omega
  have b0 : (0 : Int) ≤ i := by omega
  have b1 : (i : Int) ≤ c := by omega
  have b2 : (0 : Int) ≤ ((i + 1 : Nat) : Int) := by omega
  have b3 : ((i + 1 : Nat) : Int) ≤ l.length := by omega
  have b4 : (l.length : Int) ≤ c := by omega
  by_cases hic : i + 1 = c
  · refine ADraw.planR [6] [(0, true), (1, true), (2, true), (3, true), (4, true), (5, true), (6, true), (7, true)] [(0, false), (0, false), (0, false), (0, false), (0, false), (0, false), (0, true), (0, false)] mixed (by kernel_rfl) (by kernel_rfl) ?_
    simp (maxSteps := 400000) (dsimp := false) only [hcz, b0, b1, b2, b3, b4, eq_true hic, axs, axw, aresL, afill, Value.oneCell', Nat.reduceLT, Nat.reduceLeDiff, Nat.reduceEqDiff, Nat.reduceAdd, Nat.reduceMul, Nat.reduceSub, Nat.reduceBEq, Int.reduceLE, Int.reduceLT, Int.reduceToNat, Int.reduceNeg, Int.reduceEq, axt, ftK, ft3, AAll, ftQ, tys]
    refine ASoloK.x rfl rfl (by exact AStepX.append_in (id := id) (idy := id) (z := 2) (i := i) (L := 0) (off2 := 0) (c2 := 0) (k := c) (es := PR l) (es2 := PR l) rfl rfl rfl rfl sl26 ty56 rfl (by decide) rfl rfl hid hid (by rw [PR_len]; omega) (by omega) (by omega) rfl) ?_
    simp (maxSteps := 400000) (dsimp := false) only [axs, axw, aresL, afill, Value.oneCell', Nat.reduceLT, Nat.reduceLeDiff, Nat.reduceEqDiff, Nat.reduceAdd, Nat.reduceMul, Nat.reduceSub, Nat.reduceBEq, Int.reduceLE, Int.reduceLT, Int.reduceToNat, Int.reduceNeg, Int.reduceEq, axt, ftK, ft3, AAll, ftQ, tys]
    refine AStepX.len rfl rfl rfl rfl sl26 rfl ?_
    have d0 : (0 : Int) ≤ (i : Int) := by omega
    have d1 : (i : Int) ≤ l.length := by omega
    have d2 : ¬ i = c := by omega
    simp (maxSteps := 400000) (dsimp := false) only [d0, d1, b4, eq_false d2, axs, axw, aresL, afill, Value.oneCell', Nat.reduceLT, Nat.reduceLeDiff, Nat.reduceEqDiff, Nat.reduceAdd, Nat.reduceMul, Nat.reduceSub, Nat.reduceBEq, Int.reduceLE, Int.reduceLT, Int.reduceToNat, Int.reduceNeg, Int.reduceEq, axt, ftK, ft3, AAll, ftQ, tys]
    refine AStepX.clear rfl rfl rfl rfl sl26 ty56 rfl (by decide) rfl rfl rfl (.inr ⟨_, rfl⟩) (upd_same _ _ _) (by simp [over, PR_len]; omega) ?_
    simp (maxSteps := 400000) (dsimp := false) only [upd_upd, axs, axw, aresL, afill, Value.oneCell', Nat.reduceLT, Nat.reduceLeDiff, Nat.reduceEqDiff, Nat.reduceAdd, Nat.reduceMul, Nat.reduceSub, Nat.reduceBEq, Int.reduceLE, Int.reduceLT, Int.reduceToNat, Int.reduceNeg, Int.reduceEq, axt, ftK, ft3, AAll, ftQ, tys]
    refine ⟨_, rfl, _, _, _, _, _, rfl, _, by rw [eraseIdx_len h]; congr 1; omega, congrArg (fun e => AO.obj 56 2 e false) (over_end l (by omega) _), fun j hj => ?_⟩
    rw [if_neg hj]
  · refine ADraw.planR [6] [(0, true), (1, true), (2, true), (3, true), (4, true), (5, true), (6, true), (7, true)] [(0, false), (0, false), (0, false), (0, false), (0, false), (0, false), (0, true), (0, false)] mixed (by kernel_rfl) (by kernel_rfl) ?_
    simp (maxSteps := 400000) (dsimp := false) only [hcz, b0, b1, b2, b3, b4, hic, axs, axw, aresL, afill, Value.oneCell', Nat.reduceLT, Nat.reduceLeDiff, Nat.reduceEqDiff, Nat.reduceAdd, Nat.reduceMul, Nat.reduceSub, Nat.reduceBEq, Int.reduceLE, Int.reduceLT, Int.reduceToNat, Int.reduceNeg, Int.reduceEq, axt, ftK, ft3, AAll, ftQ, tys]
    refine ASoloK.x rfl rfl (by exact AStepX.append_in (id := id) (idy := id) (z := 2) (i := i) (L := l.length - (i + 1)) (off2 := i + 1) (k := c) (es := PR l) (es2 := PR l) rfl rfl rfl rfl sl26 ty56 rfl (by decide) rfl rfl hid hid (by rw [PR_len]; omega) (by rw [PR_len]; omega) (by omega) rfl) ?_
    simp (maxSteps := 400000) (dsimp := false) only [axs, axw, aresL, afill, Value.oneCell', Nat.reduceLT, Nat.reduceLeDiff, Nat.reduceEqDiff, Nat.reduceAdd, Nat.reduceMul, Nat.reduceSub, Nat.reduceBEq, Int.reduceLE, Int.reduceLT, Int.reduceToNat, Int.reduceNeg, Int.reduceEq, axt, ftK, ft3, AAll, ftQ, tys]
    refine AStepX.len rfl rfl rfl rfl sl26 rfl ?_
    have d0 : (0 : Int) ≤ ((i + (l.length - (i + 1)) : Nat) : Int) := by omega
    have d1 : ((i + (l.length - (i + 1)) : Nat) : Int) ≤ l.length := by omega
    have d2 : ¬ i + (l.length - (i + 1)) = c := by omega
    simp (maxSteps := 400000) (dsimp := false) only [d0, d1, b4, eq_false d2, axs, axw, aresL, afill, Value.oneCell', Nat.reduceLT, Nat.reduceLeDiff, Nat.reduceEqDiff, Nat.reduceAdd, Nat.reduceMul, Nat.reduceSub, Nat.reduceBEq, Int.reduceLE, Int.reduceLT, Int.reduceToNat, Int.reduceNeg, Int.reduceEq, axt, ftK, ft3, AAll, ftQ, tys]
    refine AStepX.clear rfl rfl rfl rfl sl26 ty56 rfl (by decide) rfl rfl rfl (.inr ⟨_, rfl⟩) (upd_same _ _ _) (by simp [over, PR_len]; omega) ?_
    simp (maxSteps := 400000) (dsimp := false) only [upd_upd, axs, axw, aresL, afill, Value.oneCell', Nat.reduceLT, Nat.reduceLeDiff, Nat.reduceEqDiff, Nat.reduceAdd, Nat.reduceMul, Nat.reduceSub, Nat.reduceBEq, Int.reduceLE, Int.reduceLT, Int.reduceToNat, Int.reduceNeg, Int.reduceEq, axt, ftK, ft3, AAll, ftQ, tys]
    refine ⟨_, rfl, _, _, _, _, _, rfl, _, by rw [eraseIdx_len h]; congr 1; omega, congrArg (fun e => AO.obj 56 2 e false) (over_mid l h _), fun j hj => ?_⟩
    rw [if_neg hj]
end Go.Al
