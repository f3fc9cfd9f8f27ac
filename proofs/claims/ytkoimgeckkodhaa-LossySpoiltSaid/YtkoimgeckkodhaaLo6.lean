/- A map that forgets: the map behind an operation. Conditions: the rows are short. -/
import Derived.Test.YtkoimgeckkodhaaLo5
set_option linter.unusedVariables false
set_option linter.unusedSimpArgs false
set_option maxRecDepth 20000
set_option maxHeartbeats 6400000
-- NOIDS: noIdsE_PR
-- LENS: PR_len
namespace Go.Al
open Go.Proofs
/-- The pairs that are left of a map. -/
def rest (m out : List (Int × Int)) : List (Int × Int) := stay (fun x => decide (x ∈ out)) m
def behindM (m : List (Int × Int)) (o : LOp) (a : LAns) : List (Int × Int) :=
  if o.kind = 2 then (if idxK (rest m a.out) o.key ≥ 0 then (rest m a.out).set (idxK (rest m a.out) o.key).toNat (o.key, o.val) else rest m a.out ++ [(o.key, o.val)])
  else if o.kind = 3 ∧ idxK (rest m a.out) o.key ≥ 0 then (rest m a.out).eraseIdx (idxK (rest m a.out) o.key).toNat else rest m a.out
/-- A row cleared of some pairs, told exactly. -/
theorem cDelX (t : Int × Int → Bool) (l : List (Int × Int)) (hl : l.length ≤ 1000000) {g te : Nat} {caps : List AV} {v : AV} {H : AH} {n : Nat} (hv : Live te 2 H (PR l) v) (hlt : ∀ id z o m, v = .sl id z o m → id < n)
    (hf : ∀ (H' : AH) (n' : Nat), n ≤ n' → (∀ j, j < n → (∀ z o m, v ≠ .sl j z o m) → H' j = H j) → TestF g caps t H' n') :
    HCalls Try.prog 43 [v, .fn g caps] H n
      fun r H' n' => Live te 2 H' (PR (stay t l)) r ∧ (∀ id z o m, r = .sl id z o m → v = .sl id 2 0 l.length) ∧ n ≤ n' ∧ ∀ j, j < n → (∀ z o m, v ≠ .sl j z o m) → H' j = H j := by
  rcases hv with ⟨h1, rfl⟩ | ⟨id, rfl, hid⟩
  · obtain rfl := PR_nil h1
    refine (cDelNil n _ H).mono ?_
    rintro r H' n' ⟨rfl, rfl, rfl⟩
    exact ⟨Live.nil, (fun id z o m e => (nomatch e)), Nat.le_refl _, fun _ _ _ => rfl⟩
  · rw [PR_len] at hlt ⊢
    have hf2 : ∀ (H' : AH) (n' : Nat), n ≤ n' → (∀ j, j < n → j ≠ id → H' j = H j) → TestF g caps t H' n' := fun H' n' hn hk => hf H' n' hn fun j hj hne => hk j hj fun e => hne 2 0 (PR l).length (by rw [e])
    refine (cDelFn t l hl hid (hlt _ _ _ _ rfl) hf2).shrink ?_
    rintro r H' n' ⟨es, rfl, h2, h3, h4⟩
    refine .inr ⟨id, _, _, _, (PR (stay t l)).length, h2, Live.mk ((upd_same _ _ _).trans (by rw [List.take_left])) (by rw [PR_len]), (fun id' z o m e => by cases e; rfl), h3, fun j hj hne => ?_⟩
    rw [upd_ne _ _ (fun e => hne 2 0 l.length (by rw [e]))]
    exact h4 j hj (fun e => hne 2 0 l.length (by rw [e]))
theorem TestF.mono {g : Nat} {caps : List AV} {t : Int × Int → Bool} {H : AH} {b b' : Nat} (h : TestF g caps t H b) (hb : b ≤ b') : TestF g caps t H b' := fun n x hn => h n x (Nat.le_trans hb hn)
theorem cDelAtX (l : List (Int × Int)) (i : Nat) (h : i < l.length) (hl : l.length ≤ 1000000) {id : Nat} {H : AH} {n : Nat} (hid : H id = some (.obj 56 2 (PR l) false)) (hlt : id < n) :
    HCalls Try.prog 47 [.sl id 2 0 l.length, .sc (.int .i64 i), .sc (.int .i64 ((i + 1 : Nat) : Int))] H n
      fun v H' n' => Live 56 2 H' (PR (l.eraseIdx i)) v := by
  refine ((cDelAt l i h hl hid hlt).shrink ?_)
  rintro r H' n' ⟨es, rfl, h2, h3, h4⟩
  exact .inr ⟨id, _, _, _, (PR (l.eraseIdx i)).length, h2, Live.mk ((upd_same _ _ _).trans (by rw [List.take_left])) (by rw [PR_len])⟩
theorem stay_len (t : Int × Int → Bool) (l : List (Int × Int)) : (stay t l).length ≤ l.length := List.length_filter_le _ _
theorem cCloneX (l : List (Int × Int)) (hl : l.length ≤ 1000000) (H : AH) (n : Nat) : HCalls Try.prog 44 [.lst 2 (PR l)] H n fun v H' n' => Live 56 2 H' (PR l) v ∧ (∀ id z o m, v = .sl id z o m → n ≤ id ∧ id < n') ∧ Keeps H n H' n' := by
  refine HCalls.walk Try.func44 rfl rfl Try.ntmps44 Try.results44 (by simp) ?_; simp (maxSteps := 400000) (dsimp := false) only [axs, axw, aresL, afill, Value.oneCell', Nat.reduceLT, Nat.reduceLeDiff, Nat.reduceEqDiff, Nat.reduceAdd, Nat.reduceMul, Nat.reduceSub, Nat.reduceBEq, Int.reduceLE, Int.reduceLT, Int.reduceToNat, Int.reduceNeg, Int.reduceEq, axt, ftK, ft3, AAll, ftQ, tys]
  refine AStepX.eql_nil rfl rfl sl26 (fun b hb => ?_)
  simp (maxSteps := 400000) (dsimp := false) only [axs, axw, aresL, afill, Value.oneCell', Nat.reduceLT, Nat.reduceLeDiff, Nat.reduceEqDiff, Nat.reduceAdd, Nat.reduceMul, Nat.reduceSub, Nat.reduceBEq, Int.reduceLE, Int.reduceLT, Int.reduceToNat, Int.reduceNeg, Int.reduceEq, axt, ftK, ft3, AAll, ftQ, tys]
  cases b with
  | true =>
    simp (maxSteps := 400000) (dsimp := false) only [axs, axw, aresL, afill, Value.oneCell', Nat.reduceLT, Nat.reduceLeDiff, Nat.reduceEqDiff, Nat.reduceAdd, Nat.reduceMul, Nat.reduceSub, Nat.reduceBEq, Int.reduceLE, Int.reduceLT, Int.reduceToNat, Int.reduceNeg, Int.reduceEq, axt, ftK, ft3, AAll, ftQ, tys]
    have : PR l = [] := hb rfl
    rw [this]
    exact ⟨_, rfl, Live.nil, (fun id z o m e => (nomatch e)), Keeps.refl _ _⟩
  | false =>
    have h1 : l.length * 16 ≤ 140737488355328 := by omega
    have h2 : l.length ≤ 1099511627776 := by omega
    simp (maxSteps := 400000) (dsimp := false) only [PR_len, upd_same, h1, h2, axs, axw, aresL, afill, Value.oneCell', Nat.reduceLT, Nat.reduceLeDiff, Nat.reduceEqDiff, Nat.reduceAdd, Nat.reduceMul, Nat.reduceSub, Nat.reduceBEq, Int.reduceLE, Int.reduceLT, Int.reduceToNat, Int.reduceNeg, Int.reduceEq, axt, ftK, ft3, AAll, ftQ, tys]
    exact ⟨_, rfl, Live.mk (upd_same _ _ _) (by rw [PR_len]), (fun id z o m e => by cases e; omega), ((Keeps.refl _ _).upd.put (Nat.le_refl _)).upd⟩
theorem cBehind (m : List (Int × Int)) (o : LOp) (a : LAns) (hm : m.length ≤ 100000) (hl : a.out.length ≤ 1000000) : PCalls Try.prog 25 [.lst 2 (PR m), .agg o.cells, .agg a.cells] (.lst 2 (PR (behindM m o a))) := by
  unfold LOp.cells LAns.cells
  refine PCalls.intro2 Try.func25 rfl rfl Try.ntmps25 Try.results25 (by simp) fun n => ?_; simp (maxSteps := 400000) (dsimp := false) only [axs, axw, aresL, afill, Value.oneCell', Nat.reduceLT, Nat.reduceLeDiff, Nat.reduceEqDiff, Nat.reduceAdd, Nat.reduceMul, Nat.reduceSub, Nat.reduceBEq, Int.reduceLE, Int.reduceLT, Int.reduceToNat, Int.reduceNeg, Int.reduceEq, axt, ftK, ft3, AAll, ftQ, tys]
  refine ACallK.heap _ rfl (cCloneX m (by omega) _ _) ?_
  rintro v H1 n1 ⟨lv, hidv, kp⟩
  have kp : Keeps _ (n + 1 + 1) H1 n1 := kp
  have lv : Live 56 2 H1 (PR m) v := lv
  have hidv : ∀ id z o m, v = .sl id z o m → n + 1 + 1 ≤ id ∧ id < n1 := hidv
  have hn1 := kp.1
  have e1 := (kp.2 (n + 1) (by omega)).trans (upd_same _ _ _)
  have e0 := (kp.2 n (by omega)).trans ((upd_ne _ _ (by omega)).trans (upd_same _ _ _))
  simp (maxSteps := 400000) (dsimp := false) only [axs, axw, aresL, afill, Value.oneCell', Nat.reduceLT, Nat.reduceLeDiff, Nat.reduceEqDiff, Nat.reduceAdd, Nat.reduceMul, Nat.reduceSub, Nat.reduceBEq, Int.reduceLE, Int.reduceLT, Int.reduceToNat, Int.reduceNeg, Int.reduceEq, axt, ftK, ft3, AAll, ftQ, tys]
  have hF : ∀ (H' : AH) (n' : Nat), n1 ≤ n' → (∀ j, j < n1 → (∀ z o m, v ≠ .sl j z o m) → H' j = H1 j) → TestF 45 [.ptr (n + 1) 5 0 0] (fun x => decide (x ∈ a.out)) H' n' := fun H' n' hn hk =>
    (cDelF a.out hl ((hk (n + 1) (by omega) fun z o m e => by have := (hidv _ _ _ _ e).1; omega).trans e1)).mono (by omega)
  have cd := cDelX (fun x => decide (x ∈ a.out)) m (by omega) lv (fun id z o m e => (hidv id z o m e).2) hF
  refine ACallK.heap _ rfl cd ?_
  rintro r H2 n2 ⟨lr, hrv, hn2, hk2⟩
  have lr : Live 56 2 H2 (PR (rest m a.out)) r := lr
  have hrv : ∀ id z o k, r = .sl id z o k → n + 1 + 1 ≤ id ∧ id < n2 := fun id z o k e => by
    have h1 := hidv _ _ _ _ (hrv id z o k e)
    have hn2 : n1 ≤ n2 := hn2
    omega
  have hn2 : n1 ≤ n2 := hn2
  have g0 : H2 n = some (.obj 65 4 [[.sc (.int .i64 o.kind), .sc (.int .u64 o.key), .sc (.int .u64 o.val), .sc (.int .i64 o.n)]] false) := (hk2 n (by show n < n1; omega) fun z o m e => by have := (hidv _ _ _ _ e).1; omega).trans e0
  clear hk2 e1 e0
  have hrl : (rest m a.out).length ≤ 100000 := Nat.le_trans (stay_len _ _) hm
  unfold behindM
  generalize rest m a.out = q at *
  have cat := cAt q o.key (by omega)
  simp (maxSteps := 400000) (dsimp := false) only [g0, axs, axw, aresL, afill, Value.oneCell', Nat.reduceLT, Nat.reduceLeDiff, Nat.reduceEqDiff, Nat.reduceAdd, Nat.reduceMul, Nat.reduceSub, Nat.reduceBEq, Int.reduceLE, Int.reduceLT, Int.reduceToNat, Int.reduceNeg, Int.reduceEq, axt, ftK, ft3, AAll, ftQ, tys]
  refine ACallK.flat rfl cat (by simp only [SeesL, axs, axt, AS.ev, AS.put, upd, inHeap, Nat.reduceLT, Nat.reduceEqDiff, Nat.reduceAdd, Nat.reduceBEq]; exact ⟨Live.sees lr (noIdsE_PR _), Sees.sc⟩) (by simp [flatV, flatL]) ?_
  rcases idxT_cases (fun x => decide (x.1 = o.key)) q with ⟨hk, hq⟩ | ⟨p, x, hk, hx, hxt, hq⟩
  · have hk : idxK q o.key = -1 := hk
    have am : ¬ ((-1 : Int) ≥ 0) := by omega
    rw [hk]
    by_cases k2 : o.kind = 2
    · rw [if_pos k2, if_neg am]
      have b1 : (q.length + 1) * 16 ≤ 140737488355328 := by omega
      have b2 : q.length + 1 ≤ 1099511627776 := by omega
      rcases lr with ⟨h7, h8⟩ | ⟨id, h7, h8⟩
      · obtain rfl := PR_nil h7
        simp (maxSteps := 400000) (dsimp := false) only [g0, k2, am, h8, axs, axw, aresL, afill, Value.oneCell', Nat.reduceLT, Nat.reduceLeDiff, Nat.reduceEqDiff, Nat.reduceAdd, Nat.reduceMul, Nat.reduceSub, Nat.reduceBEq, Int.reduceLE, Int.reduceLT, Int.reduceToNat, Int.reduceNeg, Int.reduceEq, axt, ftK, ft3, AAll, ftQ, tys]
        exact ⟨_, rfl, (Live.mk (upd_same _ _ _) rfl : Live 56 2 _ (PR [(o.key, o.val)]) _).sees (noIdsE_PR _)⟩
      · have := hrv _ _ _ _ h7
        rw [PR_len] at h7
        have ne1 : ¬ id = n2 ∧ ¬ n2 = id ∧ ¬ n = n2 ∧ ¬ n = id ∧ ¬ id = n := by and_intros <;> omega
        simp (maxSteps := 400000) (dsimp := false) only [g0, k2, am, h7, h8, ne1, b1, b2, PR_len, axs, axw, aresL, afill, Value.oneCell', Nat.reduceLT, Nat.reduceLeDiff, Nat.reduceEqDiff, Nat.reduceAdd, Nat.reduceMul, Nat.reduceSub, Nat.reduceBEq, Int.reduceLE, Int.reduceLT, Int.reduceToNat, Int.reduceNeg, Int.reduceEq, axt, ftK, ft3, AAll, ftQ, tys]
        rw [PR_append]
        exact ⟨_, rfl, (Live.mk (upd_same _ _ _) (by simp [PR_len]) : Live 56 2 _ (PR q ++ PR [(o.key, o.val)]) _).sees (by rw [← PR_append]; exact noIdsE_PR _)⟩
    · have k2' : ¬ (o.kind = 2) := k2
      rw [if_neg k2, if_neg (fun h => am h.2)]
      by_cases k3 : o.kind = 3
      · simp (maxSteps := 400000) (dsimp := false) only [g0, k3, am, axs, axw, aresL, afill, Value.oneCell', Nat.reduceLT, Nat.reduceLeDiff, Nat.reduceEqDiff, Nat.reduceAdd, Nat.reduceMul, Nat.reduceSub, Nat.reduceBEq, Int.reduceLE, Int.reduceLT, Int.reduceToNat, Int.reduceNeg, Int.reduceEq, axt, ftK, ft3, AAll, ftQ, tys]
        exact ⟨_, rfl, lr.sees (noIdsE_PR _)⟩
      · simp (maxSteps := 400000) (dsimp := false) only [g0, k2, k3, axs, axw, aresL, afill, Value.oneCell', Nat.reduceLT, Nat.reduceLeDiff, Nat.reduceEqDiff, Nat.reduceAdd, Nat.reduceMul, Nat.reduceSub, Nat.reduceBEq, Int.reduceLE, Int.reduceLT, Int.reduceToNat, Int.reduceNeg, Int.reduceEq, axt, ftK, ft3, AAll, ftQ, tys]
        exact ⟨_, rfl, lr.sees (noIdsE_PR _)⟩
  · have hk : idxK q o.key = p := hk
    have hge : (p : Int) ≥ 0 := by omega
    have hp0 : (0 : Int) ≤ (p : Int) := by omega
    have hplt := (List.getElem?_eq_some_iff.1 hx).1
    have hpl : (p : Int) < q.length := by omega
    have hg := PR_get hx
    have hpn : ((p : Int)).toNat = p := by omega
    have hw : IntKind.i64.wrap ((p : Int) + 1) = ((p + 1 : Nat) : Int) := by rw [wrap_in (by omega) (by omega)]; rfl
    rw [hk, hpn]
    rcases lr with ⟨h7, h8⟩ | ⟨id, h7, h8⟩
    · obtain rfl := PR_nil h7
      exact absurd hplt (Nat.not_lt_zero _)
    have hid := hrv _ _ _ _ h7
    rw [PR_len] at h7
    by_cases k2 : o.kind = 2
    · rw [if_pos k2, if_pos hge]
      simp (maxSteps := 400000) (dsimp := false) only [g0, k2, hge, h7, h8, hp0, hpl, hg, PR_len, axs, axw, aresL, afill, Value.oneCell', Nat.reduceLT, Nat.reduceLeDiff, Nat.reduceEqDiff, Nat.reduceAdd, Nat.reduceMul, Nat.reduceSub, Nat.reduceBEq, Int.reduceLE, Int.reduceLT, Int.reduceToNat, Int.reduceNeg, Int.reduceEq, axt, ftK, ft3, AAll, ftQ, tys]
      rw [of_decide_eq_true hxt, PR_set]
      exact ⟨_, rfl, (Live.mk (upd_same _ _ _) (by simp [PR_len]) : Live 56 2 _ (PR (q.set p (o.key, o.val))) _).sees (noIdsE_PR _)⟩
    · rw [if_neg k2]
      by_cases k3 : o.kind = 3
      · rw [if_pos ⟨k3, hge⟩]
        simp (maxSteps := 400000) (dsimp := false) only [g0, k3, hge, h7, hw, axs, axw, aresL, afill, Value.oneCell', Nat.reduceLT, Nat.reduceLeDiff, Nat.reduceEqDiff, Nat.reduceAdd, Nat.reduceMul, Nat.reduceSub, Nat.reduceBEq, Int.reduceLE, Int.reduceLT, Int.reduceToNat, Int.reduceNeg, Int.reduceEq, axt, ftK, ft3, AAll, ftQ, tys]
        refine ACallK.heap _ rfl (cDelAtX q p hplt (by omega) h8 hid.2) ?_
        rintro r2 H3 n3 lr2
        simp (maxSteps := 400000) (dsimp := false) only [axs, axw, aresL, afill, Value.oneCell', Nat.reduceLT, Nat.reduceLeDiff, Nat.reduceEqDiff, Nat.reduceAdd, Nat.reduceMul, Nat.reduceSub, Nat.reduceBEq, Int.reduceLE, Int.reduceLT, Int.reduceToNat, Int.reduceNeg, Int.reduceEq, axt, ftK, ft3, AAll, ftQ, tys]
        exact ⟨_, rfl, lr2.sees (noIdsE_PR _)⟩
      · rw [if_neg (fun h => k3 h.1)]
        simp (maxSteps := 400000) (dsimp := false) only [g0, k2, k3, axs, axw, aresL, afill, Value.oneCell', Nat.reduceLT, Nat.reduceLeDiff, Nat.reduceEqDiff, Nat.reduceAdd, Nat.reduceMul, Nat.reduceSub, Nat.reduceBEq, Int.reduceLE, Int.reduceLT, Int.reduceToNat, Int.reduceNeg, Int.reduceEq, axt, ftK, ft3, AAll, ftQ, tys]
        exact ⟨_, rfl, Live.sees (te := 56) (z := 2) (.inr ⟨id, by rw [PR_len]; exact h7, h8⟩) (noIdsE_PR _)⟩
end Go.Al
