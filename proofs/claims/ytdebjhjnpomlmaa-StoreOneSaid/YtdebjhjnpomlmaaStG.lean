/- Keys in queues: acts, one behind the other, by the program and the reference. Conditions: few acts. A call that keeps all objects may be told as one that changes nothing: the new ones are forgotten. Conditions: its answer knows no object. -/
import Derived.Test.YtdebjhjnpomlmaaStF
section
set_option linter.unusedVariables false
set_option linter.unusedSimpArgs false
set_option maxRecDepth 20000
set_option maxHeartbeats 6400000
-- axs, AThen, ABlock, dstsOk, AStep, callsF, AWant, aop, AS.ev, AS.put, upd, AS.bound, abin, aint, aload, astore, cellsAt, AV.cells, alen, elems, AV.int?, FPost, aresL, ares1, pack, afill, splice, Value.oneCell', Nat.reduceLT, Nat.reduceLeDiff, Nat.reduceEqDiff, Nat.reduceAdd, Nat.reduceMul, Nat.reduceSub, Nat.reduceBEq, Int.reduceLE, Int.reduceLT, Int.reduceToNat, Int.reduceNeg, Int.reduceEq, axt, ftK, ft3, pickP, AScope, AAll, pickQ, ftQ, inHeap, SAct.cells, tys: SAct.cells
-- NOIDS: noIdsE_EN, noIdsE_LE, noIdsE_TL, noIdsE_U, noIdsE_SA
-- LENS: EN_len, LE_len, TL_len, U_len, SA_len
namespace Go.Al
open Go.Proofs
def stStep (s : SS × Tb) (a : SAct) : SS × Tb := ((stDo s.1 a).1, doU s.1 s.2 a)
def stRun (c : Int) (l : List SAct) : SS × Tb := l.foldl stStep (newS (1 + c.tmod 4), List.replicate 8 z3)
theorem stRun_snoc (c : Int) (l : List SAct) (a : SAct) : stRun c (l ++ [a]) = stStep (stRun c l) a := by simp [stRun]
/-- What acts keep, and how much there was at once. -/
def mostR (c : Int) : List SAct → Nat := fun l => (List.range (l.length + 1)).foldl (fun m p => max m (tot (stRun c (l.take p)).1.ls)) 0
theorem mostR_snoc (c : Int) (l : List SAct) (a : SAct) : mostR c (l ++ [a]) = max (mostR c l) (tot (stRun c (l ++ [a])).1.ls) := by
  unfold mostR
  rw [List.length_append, List.length_singleton, List.range_succ, List.foldl_append, List.foldl_cons, List.foldl_nil]
  rw [show (l ++ [a]).take (l.length + 1) = l ++ [a] from List.take_of_length_le (by simp)]
  congr 1
  have gen : ∀ (ps : List Nat) (m : Nat), (∀ p ∈ ps, p ≤ l.length) → ps.foldl (fun m p => max m (tot (stRun c ((l ++ [a]).take p)).1.ls)) m = ps.foldl (fun m p => max m (tot (stRun c (l.take p)).1.ls)) m := by
    intro ps
    induction ps with
    | nil => intro m _; rfl
    | cons p ps ih =>
      intro m h
      rw [List.foldl_cons, List.foldl_cons, List.take_append_of_le_length (h p (by simp))]
      exact ih _ fun q hq => h q (by simp [hq])
  exact gen _ _ fun p hp => by have := List.mem_range.1 hp; omega
theorem rangeMax (f : Nat → Nat) (k : Nat) : f k ≤ (List.range (k + 1)).foldl (fun m p => max m (f p)) 0 := by
  rw [List.range_succ, List.foldl_append, List.foldl_cons, List.foldl_nil]
  omega
theorem mostR_tot (c : Int) (l : List SAct) : tot (stRun c l).1.ls ≤ mostR c l := by
  have := rangeMax (fun p => tot (stRun c (l.take p)).1.ls) l.length
  rw [List.take_of_length_le (Nat.le_refl _)] at this
  exact this
theorem stRun_ok (c : Int) (l : List SAct) (hf : ∀ a ∈ l, a.Fits) (hl : l.length ≤ 900) : SB (stRun c l).1 (mostR c l) ∧ mostR c l ≤ l.length ∧ Twin (stRun c l).1.T (stRun c l).2 := by
  have gen : ∀ (k : Nat) (l : List SAct), l.length = k → (∀ a ∈ l, a.Fits) → l.length ≤ 900 → SB (stRun c l).1 (mostR c l) ∧ mostR c l ≤ l.length ∧ Twin (stRun c l).1.T (stRun c l).2 := by
    intro k
    induction k with
    | zero =>
      intro l hk _ _
      have : l = [] := List.length_eq_zero_iff.1 hk
      subst this
      have e : mostR c [] = 0 := by
        show max 0 (tot (List.replicate _ [])) = 0
        rw [tot_rep]; rfl
      rw [e]
      exact ⟨newS_ok _, Nat.le_refl _, Twin.refl empty_ok⟩
    | succ k ih =>
      intro l hk hf hl
      rcases List.eq_nil_or_concat l with rfl | ⟨l, a, rfl⟩
      · simp at hk
      · simp only [List.concat_eq_append] at *
        rw [List.length_append, List.length_singleton] at hk hl
        obtain ⟨h1, h2, h3⟩ := ih l (by omega) (fun b hb => hf b (by simp [hb])) (by omega)
        obtain ⟨g1, g2, g3⟩ := h1.act (by omega) h3 a (hf a (by simp))
        have ht := mostR_tot c l
        rw [mostR_snoc, stRun_snoc]
        refine ⟨g1, ?_, g3⟩
        rw [List.length_append, List.length_singleton]
        show max _ (tot (stDo (stRun c l).1 a).1.ls) ≤ _
        omega
  exact gen l.length l rfl hf hl
section
variable {H H' : AH} {n n' S L r a s ta ts : Nat} {fv : AV} {x : SS}
theorem StL.own_lt (h : StL H n S L r a s ta ts fv x) {j : Nat} (hj : stOwn S L r a s ta ts fv j) : j < n := by
  rcases hj with rfl | rfl | rfl | (rfl | rfl | ⟨m, e⟩) | rfl | rfl
  · exact h.lS
  · exact h.l.lL
  · exact h.l.lr
  · exact h.l.ar.la
  · exact h.l.ar.ls
  · exact h.l.ar.lf _ _ e
  · exact h.t.la
  · exact h.t.ls
theorem StL.at (h : StL H n S L r a s ta ts fv x) (hn : n ≤ n') (hk : ∀ j, stOwn S L r a s ta ts fv j → H' j = H j) : StL H' n' S L r a s ta ts fv x :=
  ⟨(hk S (.inl rfl)).trans h.hS, ⟨(hk L (.inr (.inl rfl))).trans h.l.hL, (hk r (.inr (.inr (.inl rfl)))).trans h.l.hr, h.l.ar.keep hn fun j _ hj => hk j (.inr (.inr (.inr (.inl hj)))), Nat.lt_of_lt_of_le h.l.lL hn, Nat.lt_of_lt_of_le h.l.lr hn, h.l.nL, h.l.nr⟩,
    h.t.keep hn fun j _ hj => hk j (.inr (.inr (.inr (.inr hj)))), Nat.lt_of_lt_of_le h.lS hn⟩
end
theorem cStNew2 (q : Int) (H : AH) (n : Nat) : HCalls Try.prog 9 [.sc (.int .i64 q)] H n fun v H' n' => ∃ S L r a s ta ts fv, v = .ptr S 4 0 0 ∧ (∀ j, stOwn S L r a s ta ts fv j → n ≤ j) ∧ StL H' n' S L r a s ta ts fv (newS q) ∧ Keeps H n H' n' := by
  obtain ⟨hqe, q1, q2⟩ := lsK_rng q
  refine HCalls.walk Try.func9 rfl rfl Try.ntmps9 Try.results9 (by simp) ?_; simp (maxSteps := 400000) (dsimp := false) only [axs, AThen, ABlock, dstsOk, AStep, callsF, AWant, aop, AS.ev, AS.put, upd, AS.bound, abin, aint, aload, astore, cellsAt, AV.cells, alen, elems, AV.int?, FPost, aresL, ares1, pack, afill, splice, Value.oneCell', Nat.reduceLT, Nat.reduceLeDiff, Nat.reduceEqDiff, Nat.reduceAdd, Nat.reduceMul, Nat.reduceSub, Nat.reduceBEq, Int.reduceLE, Int.reduceLT, Int.reduceToNat, Int.reduceNeg, Int.reduceEq, axt, ftK, ft3, pickP, AScope, AAll, pickQ, ftQ, inHeap, SAct.cells, tys]
  refine ACallK.heap _ rfl (cArNew 7 _ _) ?_; rintro r' H' n' ⟨rfl, eH, en⟩; obtain rfl := eH.symm; obtain rfl := en.symm; clear eH en; simp (maxSteps := 400000) (dsimp := false) only [axs, AThen, ABlock, dstsOk, AStep, callsF, AWant, aop, AS.ev, AS.put, upd, AS.bound, abin, aint, aload, astore, cellsAt, AV.cells, alen, elems, AV.int?, FPost, aresL, ares1, pack, afill, splice, Value.oneCell', Nat.reduceLT, Nat.reduceLeDiff, Nat.reduceEqDiff, Nat.reduceAdd, Nat.reduceMul, Nat.reduceSub, Nat.reduceBEq, Int.reduceLE, Int.reduceLT, Int.reduceToNat, Int.reduceNeg, Int.reduceEq, axt, ftK, ft3, pickP, AScope, AAll, pickQ, ftQ, inHeap, SAct.cells, tys]
  have h0 : ArH (upd (upd H n (some (.obj 115 7 (SL (arNew 7).slots) false))) (n + 1) (some (.obj 100 4 [[.sl n 7 0 (arNew 7).slots.length, .sc (.slice none 0 0), .sc (.int .i64 1), .sc (.int .i64 0)]] false))) (n + 1 + 1) (n + 1) n (.sc (.slice none 0 0)) (arnOf (raNew 7)) := by
    have := arNew_H 7 H n
    rw [(arNew_of 7).1] at this
    exact this
  refine ACallK.heap _ rfl (cLsNew (n + 1) q _ _) ?_
  rintro v H1 n1 ⟨rfl, rfl, rfl⟩
  have h1 := newLs h0 (lsK q)
  simp (maxSteps := 400000) (dsimp := false) only [axs, AThen, ABlock, dstsOk, AStep, callsF, AWant, aop, AS.ev, AS.put, upd, AS.bound, abin, aint, aload, astore, cellsAt, AV.cells, alen, elems, AV.int?, FPost, aresL, ares1, pack, afill, splice, Value.oneCell', Nat.reduceLT, Nat.reduceLeDiff, Nat.reduceEqDiff, Nat.reduceAdd, Nat.reduceMul, Nat.reduceSub, Nat.reduceBEq, Int.reduceLE, Int.reduceLT, Int.reduceToNat, Int.reduceNeg, Int.reduceEq, axt, ftK, ft3, pickP, AScope, AAll, pickQ, ftQ, inHeap, SAct.cells, tys]
  refine ACallK.heap _ rfl (cHtNew _ _) ?_
  rintro v H2 n2 ⟨rfl, rfl, rfl⟩
  have h2 := LsH.keeps h1 (newH_keeps _ _)
  have h3 := newH_is (upd (upd (upd (upd H n (some (.obj 115 7 (SL (arNew 7).slots) false))) (n + 1) (some (.obj 100 4 [[.sl n 7 0 (arNew 7).slots.length, .sc (.slice none 0 0), .sc (.int .i64 1), .sc (.int .i64 0)]] false))) (n + 1 + 1) (some (.obj 122 3 (RW (List.replicate (lsK q) r0)) false))) (n + 1 + 1 + 1) (some (.obj 103 2 [[.ptr (n + 1) 4 0 0, .sl (n + 1 + 1) 3 0 (lsK q)]] false))) (n + 1 + 1 + 1 + 1)
  have kp := ((Keeps.refl H n).upd (x := some (.obj 115 7 (SL (arNew 7).slots) false))).upd (x := some (.obj 100 4 [[.sl n 7 0 (arNew 7).slots.length, .sc (.slice none 0 0), .sc (.int .i64 1), .sc (.int .i64 0)]] false))
  have kp1 := (kp.upd (x := some (.obj 122 3 (RW (List.replicate (lsK q) r0)) false))).upd (x := some (.obj 103 2 [[.ptr (n + 1) 4 0 0, .sl (n + 1 + 1) 3 0 (lsK q)]] false))
  have kp2 := kp1.trans (newH_keeps _ _)
  generalize hH : newH _ _ = H2 at *
  simp (maxSteps := 400000) (dsimp := false) only [hqe, axs, AThen, ABlock, dstsOk, AStep, callsF, AWant, aop, AS.ev, AS.put, upd, AS.bound, abin, aint, aload, astore, cellsAt, AV.cells, alen, elems, AV.int?, FPost, aresL, ares1, pack, afill, splice, Value.oneCell', Nat.reduceLT, Nat.reduceLeDiff, Nat.reduceEqDiff, Nat.reduceAdd, Nat.reduceMul, Nat.reduceSub, Nat.reduceBEq, Int.reduceLE, Int.reduceLT, Int.reduceToNat, Int.reduceNeg, Int.reduceEq, axt, ftK, ft3, pickP, AScope, AAll, pickQ, ftQ, inHeap, SAct.cells, tys]
  have kk := Keeps.refl H2 (n + 1 + 1 + 1 + 1 + 1 + 1)
  refine ⟨_, rfl, n + 1 + 1 + 1 + 1 + 1 + 1, n + 1 + 1 + 1, n + 1 + 1, n + 1, n, n + 1 + 1 + 1 + 1 + 1, n + 1 + 1 + 1 + 1, .sc (.slice none 0 0), rfl, ?_, ⟨?_, h2.keeps kk.upd, h3.keeps kk.upd, by omega⟩, kp2.upd⟩
  · rintro j (h | h | h | (h | h | ⟨m, e⟩) | h | h)
    all_goals first | omega | cases e
  · rw [upd_same]
    simp [newS]
theorem ents_new (q : Int) : ents (newS q) = List.replicate (lsK q) [] := by
  unfold ents newS
  simp
theorem newS_len (q : Int) : (newS q).R.len = 8 := by
  show (raNew 7).len = 8
  rw [raNew7]
theorem wfu8' {c : Int} (w : (Lit.int .u8 c).wf = true) : 0 ≤ c ∧ c < 256 := by
  simp [Lit.wf, IntKind.min, IntKind.max, IntKind.signed, IntKind.bits] at w
  omega
theorem cRun (c : Int) (h0 : 0 ≤ c) (h1 : c < 256) (l : List SAct) (hf : ∀ a ∈ l, a.Fits) (hl : l.length ≤ 50) (H : AH) (n : Nat) :
    HCalls Try.prog 15 [.sc (.int .u8 c), .lst 5 (SA l)] H n fun v H' n' => ∃ S L r a s ta ts fv, v = .tup [.ptr S 4 0 0, SV (ents (stRun c l).1) (stRun c l).1.R.len (stRun c l).2, .sc (.bool true)] ∧ StL H' n' S L r a s ta ts fv (stRun c l).1 ∧ (∀ j, stOwn S L r a s ta ts fv j → n ≤ j) ∧ Keeps H n H' n' := by
  have w1 : IntKind.i64.wrap c = c := wrap_in (by omega) (by omega)
  have hc4 : 0 ≤ c.tmod 4 ∧ c.tmod 4 < 4 := by rw [Int.tmod_eq_emod_of_nonneg h0]; omega
  have w2 : IntKind.i64.wrap (1 + c.tmod 4) = 1 + c.tmod 4 := wrap_in (by omega) (by omega)
  have w3 : IntKind.i64.wrap (c.tmod 4) = c.tmod 4 := wrap_in (by omega) (by omega)
  have crn := rStNew (1 + c.tmod 4)
  have hr0 : (stRun c (l.take 0)).1 = newS (1 + c.tmod 4) ∧ (stRun c (l.take 0)).2 = List.replicate 8 z3 := ⟨rfl, rfl⟩
  refine HCalls.walk Try.func15 rfl rfl Try.ntmps15 Try.results15 (by simp) ?_; simp (maxSteps := 400000) (dsimp := false) only [w1, w2, w3, axs, AThen, ABlock, dstsOk, AStep, callsF, AWant, aop, AS.ev, AS.put, upd, AS.bound, abin, aint, aload, astore, cellsAt, AV.cells, alen, elems, AV.int?, FPost, aresL, ares1, pack, afill, splice, Value.oneCell', Nat.reduceLT, Nat.reduceLeDiff, Nat.reduceEqDiff, Nat.reduceAdd, Nat.reduceMul, Nat.reduceSub, Nat.reduceBEq, Int.reduceLE, Int.reduceLT, Int.reduceToNat, Int.reduceNeg, Int.reduceEq, axt, ftK, ft3, pickP, AScope, AAll, pickQ, ftQ, inHeap, SAct.cells, tys]
  refine ACallK.heap _ rfl (cStNew2 (1 + c.tmod 4) _ _) ?_
  rintro v H1 n1 ⟨S, L, r, a, s, ta, ts, fv, rfl, hown, hst, kp1⟩
  have kp1 : Keeps _ (n + 1) H1 n1 := kp1
  have hn1 := kp1.1
  have ec := (kp1.2 n (by omega)).trans (upd_same _ _ _)
  unfold SV at crn
  simp (maxSteps := 400000) (dsimp := false) only [w1, w2, w3, axs, AThen, ABlock, dstsOk, AStep, callsF, AWant, aop, AS.ev, AS.put, upd, AS.bound, abin, aint, aload, astore, cellsAt, AV.cells, alen, elems, AV.int?, FPost, aresL, ares1, pack, afill, splice, Value.oneCell', Nat.reduceLT, Nat.reduceLeDiff, Nat.reduceEqDiff, Nat.reduceAdd, Nat.reduceMul, Nat.reduceSub, Nat.reduceBEq, Int.reduceLE, Int.reduceLT, Int.reduceToNat, Int.reduceNeg, Int.reduceEq, axt, ftK, ft3, pickP, AScope, AAll, pickQ, ftQ, inHeap, SAct.cells, tys]
  refine ACallK.strict rfl (crn) (by simp only [SeesL, w1, w2, w3, axs, axt, AS.ev, AS.put, upd, inHeap, Nat.reduceLT, Nat.reduceEqDiff, Nat.reduceAdd, Nat.reduceBEq, SAct.cells]; repeat' (first | exact True.intro | exact Sees.sc | exact Sees.none | ((with_reducible refine Sees.same ?_) <;> simp [noIds, noIdsL, noIdsE, noIdsE_U, noIdsE_UU, noIdsE_EN, noIdsE_LE, noIdsE_TL, noIdsE_U, noIdsE_SA] <;> fail) | (refine Live.sees ?_ ?_ <;> first | assumption | (simp [noIdsE_U, noIdsE_UU, noIdsE_EN, noIdsE_LE, noIdsE_TL, noIdsE_U, noIdsE_SA] <;> fail)) | (refine Sees.obj ?_ ?_ ?_ <;> first | exact ⟨_, _, by assumption, rfl⟩ | (simp [U_len, UU_len, EN_len, LE_len, TL_len, U_len, SA_len] <;> fail) | (simp [noIdsE_U, noIdsE_UU, noIdsE_EN, noIdsE_LE, noIdsE_TL, noIdsE_U, noIdsE_SA] <;> fail) | (simp [U, UU, upd] <;> fail) | (simp [U, UU, upd, neS, *] <;> fail)) | (refine Sees.of_seen 3 ?_ <;> simp [seen, upd, noIdsE, noIdsL, noIds, U, UU, Nat.add_assoc] <;> fail) | refine Sees.agg ?_ | refine And.intro ?_ ?_ | simp only [SeesL])) ?_; simp (maxSteps := 400000) (dsimp := false) only [w1, w2, w3, axs, AThen, ABlock, dstsOk, AStep, callsF, AWant, aop, AS.ev, AS.put, upd, AS.bound, abin, aint, aload, astore, cellsAt, AV.cells, alen, elems, AV.int?, FPost, aresL, ares1, pack, afill, splice, Value.oneCell', Nat.reduceLT, Nat.reduceLeDiff, Nat.reduceEqDiff, Nat.reduceAdd, Nat.reduceMul, Nat.reduceSub, Nat.reduceBEq, Int.reduceLE, Int.reduceLT, Int.reduceToNat, Int.reduceNeg, Int.reduceEq, axt, ftK, ft3, pickP, AScope, AAll, pickQ, ftQ, inHeap, SAct.cells, tys]
  refine ALoop.upto l.length (fun p t => t.t 1 = .lst 5 (SA l) ∧ t.t 5 = .ptr n 3 0 0 ∧ t.t 7 = .ptr S 4 0 0 ∧ t.t 8 = .ptr n1 3 0 0 ∧ t.t 9 = .sc (.int .i64 p) ∧ n1 < t.n ∧ t.H n = some (.obj 31 3 [[.sc (.slice none 0 0), .sc (.int .i64 0), .sc (.slice none 0 0)]] false) ∧ t.H n1 = some (.obj 31 3 [[.lst 1 (LE (ents (stRun c (l.take p)).1)), .sc (.int .i64 (stRun c (l.take p)).1.R.len), .lst 3 (TL (stRun c (l.take p)).2)]] false) ∧ (∀ j, j < n → t.H j = H j) ∧ ∃ s ts fv, StL t.H t.n S L r a s ta ts fv (stRun c (l.take p)).1 ∧ ∀ j, stOwn S L r a s ta ts fv j → n < j ∧ j ≠ n1) ?_ ?_
  · refine ⟨rfl, rfl, rfl, rfl, rfl, by show n1 < n1 + 1; omega, ?_, ?_, ?_, s, ts, fv, ?_, fun j hj => ?_⟩
    · exact (upd_ne _ _ (by omega)).trans ((upd_ne _ _ (by omega)).trans ec)
    · refine (upd_same _ _ _).trans ?_
      rw [hr0.1, hr0.2, ents_new, newS_len]
      rfl
    · intro j hj
      exact (upd_ne _ _ (by omega)).trans ((upd_ne _ _ (by omega)).trans ((kp1.2 j (by omega)).trans (upd_ne _ _ (by omega))))
    · rw [hr0.1]
      exact hst.at (by show n1 ≤ n1 + 1; omega) fun j hj => by
        have := hst.own_lt hj
        exact (upd_ne _ _ (by omega)).trans (upd_ne _ _ (by omega))
    · have h1 := hst.own_lt hj
      have h2 : n + 1 ≤ j := hown j hj
      omega
  · rintro p st hp hb ⟨e1, e5, e7, e8, e9, hlt0, hz, hv, hk, s', ts', fv', hst, hown⟩
    have hxp : (l.take p).length ≤ 900 := by rw [List.length_take]; omega
    obtain ⟨b, hmo, tw⟩ := stRun_ok c (l.take p) (fun a ha => hf a (List.mem_of_mem_take ha)) hxp
    rw [List.length_take] at hmo
    rcases Nat.lt_or_ge p l.length with hlt | hge
    · obtain ⟨y, hy, hp0, hpl, hw, hT, hD⟩ := idx hlt (by omega)
      have hsn := stRun_snoc c (l.take p) y
      rw [← hT] at hsn
      have hg := SA_get hy
      have hyf := hf y (List.mem_of_getElem? hy)
      have cd := rDo b (by omega) tw y hyf
      rw [hsn]
      unfold stStep
      generalize (stRun c (l.take p)).1 = x at *
      generalize (stRun c (l.take p)).2 = U at *
      simp (maxSteps := 400000) (dsimp := false) only [e1, e5, e7, e8, e9, hpl, SA_len, hg, hp0, axs, AThen, ABlock, dstsOk, AStep, callsF, AWant, aop, AS.ev, AS.put, upd, AS.bound, abin, aint, aload, astore, cellsAt, AV.cells, alen, elems, AV.int?, FPost, aresL, ares1, pack, afill, splice, Value.oneCell', Nat.reduceLT, Nat.reduceLeDiff, Nat.reduceEqDiff, Nat.reduceAdd, Nat.reduceMul, Nat.reduceSub, Nat.reduceBEq, Int.reduceLE, Int.reduceLT, Int.reduceToNat, Int.reduceNeg, Int.reduceEq, axt, ftK, ft3, pickP, AScope, AAll, pickQ, ftQ, inHeap, SAct.cells, tys]
      refine ACallK.heap _ rfl (cStDo hst (b.ok (by omega)) y hyf) ?_
      rintro v H2 n2 ⟨rfl, to⟩
      obtain ⟨le2, kp2, s2, ts2, fv2, hst2, own2⟩ := to
      have le2 : st.n ≤ n2 := le2
      have kp2 : ∀ j, j < st.n → ¬ stOwn S L r a s' ta ts' fv' j → H2 j = st.H j := kp2
      have own2 : ∀ j, stOwn S L r a s2 ta ts2 fv2 j → stOwn S L r a s' ta ts' fv' j ∨ st.n ≤ j := own2
      have hv2 := (kp2 n1 hlt0 (fun h => (hown _ h).2 rfl)).trans hv
      have hz2 := (kp2 n (by omega) (fun h => by have := (hown _ h).1; omega)).trans hz
      have hne : (¬ n1 = n2 ∧ ¬ n2 = n1) ∧ (¬ n = n2 ∧ ¬ n2 = n) ∧ (¬ n = n1 ∧ ¬ n1 = n) := by and_intros <;> omega
      unfold SV SAct.cells at cd
      simp (maxSteps := 400000) (dsimp := false) only [e1, e5, e7, e8, e9, axs, AThen, ABlock, dstsOk, AStep, callsF, AWant, aop, AS.ev, AS.put, upd, AS.bound, abin, aint, aload, astore, cellsAt, AV.cells, alen, elems, AV.int?, FPost, aresL, ares1, pack, afill, splice, Value.oneCell', Nat.reduceLT, Nat.reduceLeDiff, Nat.reduceEqDiff, Nat.reduceAdd, Nat.reduceMul, Nat.reduceSub, Nat.reduceBEq, Int.reduceLE, Int.reduceLT, Int.reduceToNat, Int.reduceNeg, Int.reduceEq, axt, ftK, ft3, pickP, AScope, AAll, pickQ, ftQ, inHeap, SAct.cells, tys]
      refine ADraw.planR [] [(0, true), (1, true), (2, true), (3, true), (4, true), (5, true), (6, true), (7, true), (8, true), (9, true), (10, true), (11, true)] [(0, false), (0, false), (0, false), (0, false), (0, false), (0, false), (0, false), (0, false), (0, false), (0, false), (0, false), (0, false)] mixed (by kernel_rfl) (by kernel_rfl) ?_
      simp (maxSteps := 400000) (dsimp := false) only [e1, e5, e7, e8, e9, hg, hp0, hpl, hv2, SA_len, axs, AThen, ABlock, dstsOk, AStep, callsF, AWant, aop, AS.ev, AS.put, upd, AS.bound, abin, aint, aload, astore, cellsAt, AV.cells, alen, elems, AV.int?, FPost, aresL, ares1, pack, afill, splice, Value.oneCell', Nat.reduceLT, Nat.reduceLeDiff, Nat.reduceEqDiff, Nat.reduceAdd, Nat.reduceMul, Nat.reduceSub, Nat.reduceBEq, Int.reduceLE, Int.reduceLT, Int.reduceToNat, Int.reduceNeg, Int.reduceEq, axt, ftK, ft3, pickP, AScope, AAll, pickQ, ftQ, inHeap, SAct.cells, tys]
      refine ACallP.pure rfl (cd) ?_; simp (maxSteps := 400000) (dsimp := false) only [e1, e5, e7, e8, e9, hv2, hne, bne_self_eq_false, hw, axs, AThen, ABlock, dstsOk, AStep, callsF, AWant, aop, AS.ev, AS.put, upd, AS.bound, abin, aint, aload, astore, cellsAt, AV.cells, alen, elems, AV.int?, FPost, aresL, ares1, pack, afill, splice, Value.oneCell', Nat.reduceLT, Nat.reduceLeDiff, Nat.reduceEqDiff, Nat.reduceAdd, Nat.reduceMul, Nat.reduceSub, Nat.reduceBEq, Int.reduceLE, Int.reduceLT, Int.reduceToNat, Int.reduceNeg, Int.reduceEq, axt, ftK, ft3, pickP, AScope, AAll, pickQ, ftQ, inHeap, SAct.cells, tys]
      refine ⟨hlt, by omega, hz2, fun j hj => ?_, s2, ts2, fv2, ?_, fun j hj => ?_⟩
      · rw [if_neg (by omega), if_neg (by omega), if_neg (by omega), kp2 j (by omega) (fun h => by have := (hown _ h).1; omega)]
        exact hk j hj
      · refine hst2.at (by omega) fun j hj => ?_
        have h1 := hst2.own_lt hj
        have h2 : j ≠ n1 := by
          rcases own2 j hj with h | h
          · exact (hown j h).2
          · omega
        exact (upd_ne _ _ h2).trans ((upd_ne _ _ (by omega)).trans (upd_ne _ _ (by omega)))
      · rcases own2 j hj with h | h
        · exact hown j h
        · omega
    · have hpl : ¬ (p : Int) < l.length := by omega
      rw [List.take_of_length_le hge] at hst hv
      simp (maxSteps := 400000) (dsimp := false) only [e1, e5, e7, e8, e9, hpl, SA_len, axs, AThen, ABlock, dstsOk, AStep, callsF, AWant, aop, AS.ev, AS.put, upd, AS.bound, abin, aint, aload, astore, cellsAt, AV.cells, alen, elems, AV.int?, FPost, aresL, ares1, pack, afill, splice, Value.oneCell', Nat.reduceLT, Nat.reduceLeDiff, Nat.reduceEqDiff, Nat.reduceAdd, Nat.reduceMul, Nat.reduceSub, Nat.reduceBEq, Int.reduceLE, Int.reduceLT, Int.reduceToNat, Int.reduceNeg, Int.reduceEq, axt, ftK, ft3, pickP, AScope, AAll, pickQ, ftQ, inHeap, SAct.cells, tys]
      refine ADraw.planR [] [(0, true), (1, true), (2, true), (3, true), (4, true)] [(0, false), (0, false), (0, false), (0, false), (0, false)] mixed (by kernel_rfl) (by kernel_rfl) ?_
      simp (maxSteps := 400000) (dsimp := false) only [e1, e5, e7, e8, e9, hv, hz, axs, AThen, ABlock, dstsOk, AStep, callsF, AWant, aop, AS.ev, AS.put, upd, AS.bound, abin, aint, aload, astore, cellsAt, AV.cells, alen, elems, AV.int?, FPost, aresL, ares1, pack, afill, splice, Value.oneCell', Nat.reduceLT, Nat.reduceLeDiff, Nat.reduceEqDiff, Nat.reduceAdd, Nat.reduceMul, Nat.reduceSub, Nat.reduceBEq, Int.reduceLE, Int.reduceLT, Int.reduceToNat, Int.reduceNeg, Int.reduceEq, axt, ftK, ft3, pickP, AScope, AAll, pickQ, ftQ, inHeap, SAct.cells, tys]
      refine ⟨_, rfl, S, L, r, a, s', ta, ts', fv', rfl, hst.at (Nat.le_refl _) (fun j hj => upd_ne _ _ (by have := (hown j hj).1; omega)), (fun j hj => by have := (hown j hj).1; omega), by omega, fun j hj => ?_⟩
      exact (upd_ne _ _ (by omega)).trans (hk j hj)
end Go.Al
end
section
set_option linter.unusedVariables false
set_option linter.unusedSimpArgs false
set_option maxHeartbeats 1600000
namespace Go.Al
open Go.Proofs
section
variable {w w' : World} {B B' : Nat → Nat → Prop} {β β' : Nat → Nat} {n n' : Nat}
mutual
theorem RepV.bound : ∀ (a : AV) (v v' : Value), RepV w B β n a v → RepV w' B' β' n' a v' → RepV w' B' β' n a v'
  | .sc u, v, v', _, h => by simpa only [RepV] using h
  | .any, _, _, _, _ => by simp only [RepV]
  | .agg cs, v, v', h1, h2 => by
    simp only [RepV] at h1 h2 ⊢
    obtain ⟨vs, _, g1⟩ := h1
    obtain ⟨vs', e, g2⟩ := h2
    exact ⟨vs', e, RepC.bound cs vs vs' g1 g2⟩
  | .tup cs, v, v', h1, h2 => by
    simp only [RepV] at h1 h2 ⊢
    obtain ⟨vs, _, g1⟩ := h1
    obtain ⟨vs', e, g2⟩ := h2
    exact ⟨vs', e, RepL.bound cs vs vs' g1 g2⟩
  | .lst z es, v, v', h1, h2 => by
    simp only [RepV] at h1 h2 ⊢
    rcases h2 with h2 | ⟨b', o', c', e1, e2, e3⟩
    · exact .inl h2
    · refine .inr ⟨b', o', c', e1, e2, ?_⟩
      rcases h1 with ⟨_, rfl⟩ | ⟨b, o, c, _, _, g3⟩
      · simp only [RepEs]
      · exact RepEs.bound es b o b' o' g3 e3
  | .sl id z off m, v, v', h1, h2 => by
    simp only [RepV] at h1 h2 ⊢
    exact ⟨h1.1, h2.2⟩
  | .ptr id z i off, v, v', h1, h2 => by
    simp only [RepV] at h1 h2 ⊢
    exact ⟨h1.1, h2.2⟩
  | .fp cs, v, v', h1, h2 => by
    simp only [RepV] at h1 h2 ⊢
    obtain ⟨b, o, _, g1⟩ := h1
    obtain ⟨b', o', e, g2⟩ := h2
    exact ⟨b', o', e, RepF.bound cs b o b' o' g1 g2⟩
  | .fn f cs, v, v', h1, h2 => by
    simp only [RepV] at h1 h2 ⊢
    obtain ⟨vs, _, g1⟩ := h1
    obtain ⟨vs', e, g2⟩ := h2
    exact ⟨vs', e, RepL.bound cs vs vs' g1 g2⟩
  | .mp id, v, v', h1, h2 => by
    simp only [RepV] at h1 h2 ⊢
    exact ⟨h1.1, h2.2⟩
  | .slc id z off m c, v, v', h1, h2 => by
    simp only [RepV] at h1 h2 ⊢
    exact ⟨h1.1, h2.2⟩
theorem RepL.bound : ∀ (cs : List AV) (vs vs' : List Value), RepL w B β n cs vs → RepL w' B' β' n' cs vs' → RepL w' B' β' n cs vs'
  | [], _, _, _, h => by simpa only [RepL] using h
  | c :: cs, vs, vs', h1, h2 => by
    simp only [RepL] at h1 h2 ⊢
    obtain ⟨u, us, _, g1, g2⟩ := h1
    obtain ⟨u', us', e, k1, k2⟩ := h2
    exact ⟨u', us', e, RepV.bound c u u' g1 k1, RepL.bound cs us us' g2 k2⟩
theorem RepC.bound : ∀ (cs : List AV) (vs vs' : List Value), RepC w B β n cs vs → RepC w' B' β' n' cs vs' → RepC w' B' β' n cs vs'
  | [], _, _, _, h => by simpa only [RepC] using h
  | c :: cs, vs, vs', h1, h2 => by
    simp only [RepC] at h1 h2 ⊢
    obtain ⟨u, us, _, g1, _, g2⟩ := h1
    obtain ⟨u', us', e, k1, ko, k2⟩ := h2
    exact ⟨u', us', e, RepV.bound c u u' g1 k1, ko, RepC.bound cs us us' g2 k2⟩
theorem RepF.bound : ∀ (cs : List AV) (b o b' o' : Nat), RepF w B β n b o cs → RepF w' B' β' n' b' o' cs → RepF w' B' β' n b' o' cs
  | [], _, _, _, _, _, _ => by simp only [RepF]
  | c :: cs, b, o, b', o', h1, h2 => by
    simp only [RepF] at h1 h2 ⊢
    obtain ⟨⟨u, _, g1, _⟩, _, g2⟩ := h1
    obtain ⟨⟨u', ku, k1, ko⟩, kb, k2⟩ := h2
    exact ⟨⟨u', ku, RepV.bound c u u' g1 k1, ko⟩, kb, RepF.bound cs b (o + 1) b' (o' + 1) g2 k2⟩
theorem RepEs.bound : ∀ (es : List (List AV)) {z : Nat} (b o b' o' : Nat), RepEs w B β n z b o es → RepEs w' B' β' n' z b' o' es → RepEs w' B' β' n z b' o' es
  | [], _, _, _, _, _, _, _ => by simp only [RepEs]
  | e :: es, z, b, o, b', o', h1, h2 => by
    simp only [RepEs] at h1 h2 ⊢
    obtain ⟨_, g1, g2⟩ := h1
    obtain ⟨el, k1, k2⟩ := h2
    exact ⟨el, RepF.bound e b o b' o' g1 k1, RepEs.bound es b (o + z) b' (o' + z) g2 k2⟩
end
theorem RepM.bound : ∀ (es : List (Value × AV)) (l l' : List MapEntry), RepM w B β n es l → RepM w' B' β' n' es l' → RepM w' B' β' n es l'
  | [], _, _, _, h => by simpa only [RepM] using h
  | (k, a) :: r, l, l', h1, h2 => by
    simp only [RepM] at h1 h2 ⊢
    obtain ⟨e, es, _, _, g1, g2⟩ := h1
    obtain ⟨e', es', k0, k1, k2, k3⟩ := h2
    exact ⟨e', es', k0, k1, RepV.bound a e.val e'.val g1 k2, RepM.bound r es es' g2 k3⟩
end
section
variable {w w' : World} {B0 : Nat → Nat → Prop} {base n n' : Nat} {β β' : Nat → Nat} {H H' : AH}
theorem HRep.forget (h : HRep w B0 base β n H) (h' : HRep w' B0 base β' n' H') (k : Keeps H n H' n') (e : Ext w B0 β n H w' β' n' H') :
    HRep w' B0 base β' n H ∧ Ext w B0 β n H w' β' n H ∧ Pres w' (Bad B0 β' H') w' (Bad B0 β' H) := by
  have up : ∀ id o, H id = some o → H' id = some o := fun id o ho => (k.2 id (h.dom id o ho)).trans ho
  have hbad : ∀ b o, Bad B0 β' H b o → Bad B0 β' H' b o := by
    rintro b o (h1 | ⟨i, t, z, es, s, h1, h2, h3⟩)
    · exact .inl h1
    · exact .inr ⟨i, t, z, es, s, up _ _ h1, h2, h3⟩
  have hp : Pres w' (Bad B0 β' H') w' (Bad B0 β' H) := ⟨fun b o u hu hnb => ⟨hu, fun hb => hnb (hbad b o hb)⟩, fun _ _ h => h⟩
  refine ⟨⟨h.dom, fun id o ho => h'.own id o (up id o ho), fun i j o o' hi hj he => h'.inj i j o o' (up _ _ hi) (up _ _ hj) he, ?_, ?_⟩,
    ⟨Nat.le_refl _, e.agree, e.pres.trans hp, e.size, e.os, e.tape, e.output, e.block, fun id o ho => .inl ⟨id, o, ho, (e.agree id (h.dom id o ho)).symm⟩⟩, hp⟩
  · intro id t z es s ho
    obtain ⟨cur, cap, h1, h2, h3, h4, h5, h6⟩ := h'.obj id t z es s (up _ _ ho)
    obtain ⟨cur0, _, _, _, _, _, g5, _⟩ := h.obj id t z es s ho
    exact ⟨cur, cap, h1, h2, h3, h4, RepC.bound _ _ _ g5 (h5.mono hp (fun _ _ => rfl) (Nat.le_refl _)), h6⟩
  · intro id es ho
    obtain ⟨ents, clock, h1, h2⟩ := h'.map id es (up _ _ ho)
    obtain ⟨ents0, _, _, g2⟩ := h.map id es ho
    exact ⟨ents, clock, h1, RepM.bound _ _ _ g2 (h2.mono hp (fun _ _ => rfl) (Nat.le_refl _))⟩
end
theorem HCalls.forget {P : Program} {f : FuncId} {args : List AV} {H : AH} {n : Nat} {r : AV} (h : HCalls P f args H n fun v H' n' => v = r ∧ Keeps H n H' n') (hr : noIds r = true) : HCalls P f args H n fun v H' n' => v = r ∧ H' = H ∧ n' = n :=
  ⟨h.1, fun w B0 base β cargs h1 h2 h3 h4 => (h.2 w B0 base β cargs h1 h2 h3 h4).mono fun _ w' ⟨β', n', H', r', v, k1, k2, k3, k4, k5, k6⟩ => by
    subst k5
    obtain ⟨g1, g2, g3⟩ := HRep.forget h3 k3 k6 k2
    exact ⟨β', n, H, r', v, k1, g2, g1, RepV.noIds _ _ hr (k4.mono g3 (fun _ _ => rfl) (Nat.le_refl _)), rfl, rfl, rfl⟩⟩
end Go.Al
end
