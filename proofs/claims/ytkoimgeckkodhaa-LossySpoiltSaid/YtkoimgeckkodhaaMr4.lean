/- A cache of any policy, by the reference: a run. Conditions: the operations are few, their capacities small. -/
import Derived.Test.YtkoimgeckkodhaaMr3
set_option linter.unusedVariables false
set_option linter.unusedSimpArgs false
set_option maxRecDepth 20000
set_option maxHeartbeats 6400000
-- axs, axw, aresL, afill, Value.oneCell', Nat.reduceLT, Nat.reduceLeDiff, Nat.reduceEqDiff, Nat.reduceAdd, Nat.reduceMul, Nat.reduceSub, Nat.reduceBEq, Int.reduceLE, Int.reduceLT, Int.reduceToNat, Int.reduceNeg, Int.reduceEq, axt, ftK, ft3, AAll, ftQ, ST, tys: ST
-- NOIDS: noIdsE_PR, NV.ok', noIdsE_OL, noIdsE_AL
-- LENS: PR_len, OL_len, AL_len
namespace Go.Al
open Go.Proofs
/-- An operation that may come up here. -/
structure LOp.Small (o : LOp) : Prop where
  key : KeyOk o.key
  val : KeyOk o.val
  n : 1 ≤ o.n → o.n ≤ 1048576 → o.n ≤ 14
def MS.new (π : Pol) (c : Int) : MS π := ⟨π.new c, [], 0, 0, 0⟩
def runS (π : Pol) (c : Int) (l : List LOp) : MS π × List LAns := l.foldl (fun r o => ((stepM r.1 o).1, r.2 ++ [(stepM r.1 o).2])) (MS.new π c, [])
theorem runS_snoc (π : Pol) (c : Int) (l : List LOp) (o : LOp) : runS π c (l ++ [o]) = ((stepM (runS π c l).1 o).1, (runS π c l).2 ++ [(stepM (runS π c l).1 o).2]) := by simp [runS]
theorem sub_len : ∀ {a b : List Int}, a.Nodup → (∀ x ∈ a, x ∈ b) → a.length ≤ b.length
  | [], _, _, _ => Nat.zero_le _
  | x :: a, b, h, hs => by
    have hx := hs x List.mem_cons_self
    have h2 := List.nodup_cons.1 h
    have h3 := sub_len (b := b.erase x) h2.2 (fun y hy => (List.mem_erase_of_ne (by rintro rfl; exact h2.1 hy)).2 (hs y (List.mem_cons_of_mem _ hy)))
    rw [List.length_erase_of_mem hx] at h3
    have := List.length_pos_of_mem hx
    rw [List.length_cons]
    omega
theorem admit_len {π : Pol} {s : π.St} {k : Int} (ok : π.ok s) (hk : KeyOk k) : k ∉ π.ks s → (π.admit s k).2.length ≤ 1000 := fun hn => by
  obtain ⟨_, h2, h3, _⟩ := π.oAdmit s k ok hk hn
  have := sub_len h2 h3
  have := (π.nd s ok).2
  omega
theorem resize_len {π : Pol} {s : π.St} {c : Int} (ok : π.ok s) : 1 ≤ c → c ≤ 14 → (π.resize s c).2.length ≤ 1000 := fun h0 h1 => by
  obtain ⟨_, h2, h3, _⟩ := π.oResize s c ok h0 h1
  have := sub_len h2 h3
  have := (π.nd s ok).2
  omega
theorem stepM_ok {π : Pol} {x : MS π} {o : LOp} (ok : π.ok x.s) (ho : o.Small) : π.ok (stepM x o).1.s ∧ (stepM x o).1.P.length ≤ x.P.length + 1 ∧ (stepM x o).2.out.length ≤ 14 := by
  have h14 := (π.nd x.s ok).2
  have gl : ∀ ks, (goA x.P ks).1.length ≤ x.P.length := fun ks => (goA_len x.P ks).1
  have go : ∀ ks, (goA x.P ks).2.length = ks.length := fun ks => (goA_len x.P ks).2
  unfold stepM
  split
  · split
    · exact ⟨(π.oTouch x.s o.key ok ho.key).1, by show x.P.length ≤ _; omega, by simp⟩
    · exact ⟨ok, by show x.P.length ≤ _; omega, by simp⟩
  split
  · unfold putM
    split
    · exact ⟨(π.oTouch x.s o.key ok ho.key).1, by show (setP _ _ _).length ≤ _; rw [setP_len]; omega, by simp⟩
    · rename_i hk
      obtain ⟨h1, h2, h3, _⟩ := π.oAdmit x.s o.key ok ho.key hk
      have hs := sub_len h2 h3
      have := gl (π.admit x.s o.key).2
      refine ⟨h1, ?_, ?_⟩
      · show (_ ++ [_]).length ≤ _
        rw [List.length_append, List.length_singleton]; omega
      · show (goA _ _).2.length ≤ _
        rw [go]; omega
  split
  · have := remP_len x.P o.key
    exact ⟨(π.oDrop x.s o.key ok ho.key).1, by show (remP _ _).length ≤ _; omega, by simp⟩
  split
  · split
    · rename_i hm
      obtain ⟨h1, h2, h3, _⟩ := π.oResize x.s o.n ok hm.1 (ho.n hm.1 hm.2)
      have hs := sub_len h2 h3
      have := gl (π.resize x.s o.n).2
      exact ⟨h1, by show (goA _ _).1.length ≤ _; omega, by show (goA _ _).2.length ≤ _; rw [go]; omega⟩
    · exact ⟨ok, by show x.P.length ≤ _; omega, by simp⟩
  split
  · exact ⟨ok, by show x.P.length ≤ _; omega, by simp⟩
  · exact ⟨ok, by show x.P.length ≤ _; omega, by simp⟩
theorem runS_ok {π : Pol} {c : Int} (c0 : 1 ≤ c) (c1 : c ≤ 14) (l : List LOp) (hs : ∀ o ∈ l, o.Small) : π.ok (runS π c l).1.s ∧ (runS π c l).1.P.length ≤ l.length ∧ (runS π c l).2.length = l.length ∧ ∀ a ∈ (runS π c l).2, a.out.length ≤ 14 := by
  have gen : ∀ (l : List LOp) (r : MS π × List LAns) (n : Nat), (∀ o ∈ l, o.Small) → π.ok r.1.s → r.1.P.length ≤ n → r.2.length = n → (∀ a ∈ r.2, a.out.length ≤ 14) →
      π.ok (l.foldl (fun r o => ((stepM r.1 o).1, r.2 ++ [(stepM r.1 o).2])) r).1.s ∧ (l.foldl (fun r o => ((stepM r.1 o).1, r.2 ++ [(stepM r.1 o).2])) r).1.P.length ≤ n + l.length ∧ (l.foldl (fun r o => ((stepM r.1 o).1, r.2 ++ [(stepM r.1 o).2])) r).2.length = n + l.length ∧ ∀ a ∈ (l.foldl (fun r o => ((stepM r.1 o).1, r.2 ++ [(stepM r.1 o).2])) r).2, a.out.length ≤ 14 := by
    intro l
    induction l with
    | nil => intro r n _ h1 h2 h3 h4; exact ⟨h1, h2, h3, h4⟩
    | cons o l ih =>
      intro r n hs h1 h2 h3 h4
      obtain ⟨g1, g2, g3⟩ := stepM_ok h1 (hs o List.mem_cons_self)
      have := ih ((stepM r.1 o).1, r.2 ++ [(stepM r.1 o).2]) (n + 1) (fun x hx => hs x (List.mem_cons_of_mem _ hx)) g1 (by simp only; omega) (by simp only [List.length_append, List.length_singleton]; omega) (fun a ha => by
        rcases List.mem_append.1 ha with h | h
        · exact h4 a h
        · rw [List.mem_singleton.1 h]; exact g3)
      rw [List.foldl_cons, List.length_cons]
      have e : n + (l.length + 1) = n + 1 + l.length := by omega
      rw [e]
      exact this
  have := gen l (MS.new π c, []) 0 hs (π.oNew c c0 c1).1 (Nat.le_refl _) rfl (fun a ha => (nomatch ha))
  rw [Nat.zero_add] at this
  exact this
theorem AL_snoc (l : List LAns) (a : LAns) : AL (l ++ [a]) = AL l ++ [[.sc (.bool a.hit), .sc (.int .u64 a.val), .sc (.int .i64 a.n), .lst 2 (PR a.out), .sc (.int .i64 a.err)]] := by simp [AL, LAns.cells]
theorem AL_nil {l : List LAns} (h : AL l = []) : l = [] := by simpa [AL] using h
theorem see90710 {p : Prop} (h : p := by repeat' (first | exact True.intro | exact Sees.sc | exact Sees.none | ((with_reducible refine Sees.same ?_) <;> simp [noIds, noIdsL, noIdsE, noIdsE_U, noIdsE_UU, noIdsE_PR, NV.ok', noIdsE_OL, noIdsE_AL] <;> fail) | (refine Live.sees ?_ ?_ <;> first | assumption | (simp [noIdsE_U, noIdsE_UU, noIdsE_PR, NV.ok', noIdsE_OL, noIdsE_AL] <;> fail)) | (refine Sees.obj ?_ ?_ ?_ <;> first | exact ⟨_, _, by assumption, rfl⟩ | (simp [U_len, UU_len, PR_len, OL_len, AL_len] <;> fail) | (simp [noIdsE_U, noIdsE_UU, noIdsE_PR, NV.ok', noIdsE_OL, noIdsE_AL] <;> fail) | (simp [U, UU, upd] <;> fail) | (simp [U, UU, upd, neS, *] <;> fail)) | (refine Sees.of_seen 3 ?_ <;> simp [seen, upd, noIdsE, noIdsL, noIds, U, UU, Nat.add_assoc] <;> fail) | refine Sees.agg ?_ | refine And.intro ?_ ?_ | simp only [SeesL])) : p := h
theorem rRun {π : Pol} (c : Int) (c0 : 1 ≤ c) (c1 : c ≤ 14) (l : List LOp) (hl : l.length ≤ 900) (hs : ∀ o ∈ l, o.Small) : PCalls Try.prog 15 [.sc (.int .i64 π.p), .sc (.int .i64 c), .lst 4 (OL l)] (.tup [.lst 5 (AL (runS π c l).2), (runS π c l).1.av]) := by
  have cn := π.cNew c c0 c1
  refine PCalls.intro2 Try.func15 rfl rfl Try.ntmps15 Try.results15 (by simp) fun n => ?_; simp (maxSteps := 400000) (dsimp := false) only [axs, axw, aresL, afill, Value.oneCell', Nat.reduceLT, Nat.reduceLeDiff, Nat.reduceEqDiff, Nat.reduceAdd, Nat.reduceMul, Nat.reduceSub, Nat.reduceBEq, Int.reduceLE, Int.reduceLT, Int.reduceToNat, Int.reduceNeg, Int.reduceEq, axt, ftK, ft3, AAll, ftQ, ST, tys]
  refine ACallK.strict rfl (cn) (by simp only [SeesL, axs, axt, AS.ev, AS.put, upd, inHeap, Nat.reduceLT, Nat.reduceEqDiff, Nat.reduceAdd, Nat.reduceBEq, ST]; exact see90710) ?_; simp (maxSteps := 400000) (dsimp := false) only [axs, axw, aresL, afill, Value.oneCell', Nat.reduceLT, Nat.reduceLeDiff, Nat.reduceEqDiff, Nat.reduceAdd, Nat.reduceMul, Nat.reduceSub, Nat.reduceBEq, Int.reduceLE, Int.reduceLT, Int.reduceToNat, Int.reduceNeg, Int.reduceEq, axt, ftK, ft3, AAll, ftQ, ST, tys]
  refine ALoop.upto l.length (fun i s => s.t 2 = .lst 4 (OL l) ∧ s.t 7 = .ptr n 24 0 0 ∧ s.t 8 = .ptr (n + 1) 24 0 0 ∧ s.t 10 = .sc (.int .i64 i) ∧ n + 1 < s.n ∧ (∃ es, es.length = 24 ∧ s.H n = some (.obj 50 24 [es] false)) ∧ (∃ es, (AV.agg es) = (runS π c (l.take i)).1.av ∧ s.H (n + 1) = some (.obj 50 24 [es] false)) ∧ Live 61 5 s.H (AL (runS π c (l.take i)).2) (s.t 9) ∧ ∀ id z o m, s.t 9 = .sl id z o m → n + 1 < id) ⟨rfl, rfl, rfl, rfl, (by show n + 1 < n + 1 + 1; omega), ⟨_, rfl, (upd_ne _ _ (by omega)).trans ((upd_ne _ _ (by omega)).trans (upd_same _ _ _))⟩, ⟨_, rfl, upd_same _ _ _⟩, Live.nil, fun id z o m e => (nomatch e)⟩ ?_
  rintro i s hi hb ⟨h2, h7, h8, h10, hlt0, ⟨e0, he0, hH0⟩, ⟨e1, he1, hH1⟩, hv, hid⟩
  obtain ⟨r1, r2, r3, r4⟩ := runS_ok (π := π) c0 c1 (l.take i) (fun o ho => hs o (List.mem_of_mem_take ho))
  rw [List.length_take] at r2 r3
  have hne : ¬ n = n + 1 ∧ ¬ n + 1 = n := by omega
  rcases Nat.lt_or_ge i l.length with hlt | hge
  · obtain ⟨o, hx, hp0, hpl, hw, hT, hD⟩ := idx hlt (by omega)
    have hg := OL_get hx
    have ho := hs o (List.mem_of_getElem? hx)
    rw [hT, runS_snoc]
    generalize runS π c (l.take i) = R at *
    obtain ⟨x, A⟩ := R
    simp only at r1 r2 r3 r4 he1 hv ⊢
    have cs := rStep x o ⟨r1, by omega⟩ (admit_len r1 ho.key) ho.n (resize_len r1)
    rw [← he1] at cs
    generalize stepM x o = Y at *
    obtain ⟨y, a⟩ := Y
    obtain ⟨e2, he2⟩ : ∃ es, AV.agg es = y.av := ⟨_, rfl⟩
    simp only at cs ⊢
    have he1l : e1.length = 24 := by
      unfold MS.av ST at he1
      cases he1
      rfl
    have he2l : e2.length = 24 := by
      unfold MS.av ST at he2
      cases he2
      rfl
    rw [← he2] at cs
    unfold LOp.cells LAns.cells at cs
    have hno : noIdsL e2 = true := by
      have : noIds (AV.agg e2) = true := by
        rw [he2]
        unfold MS.av ST
        simp [noIds, noIdsL, noIdsE_PR, NV.ok']
      simpa [noIds] using this
    have t1 : List.take 24 e1 = e1 := List.take_of_length_le (by omega)
    have t2 : List.take 24 e2 = e2 := List.take_of_length_le (by omega)
    have d1 : List.drop 24 e1 = [] := List.drop_of_length_le (by omega)
    rw [AL_snoc]
    have b1 : (A.length + 1) * 56 ≤ 140737488355328 := by omega
    have b2 : A.length + 1 ≤ 1099511627776 := by omega
    have hn3 : (¬ n = s.n ∧ ¬ n + 1 = s.n ∧ ¬ s.n = n ∧ ¬ s.n = n + 1) ∧ (¬ n = s.n + 1 ∧ ¬ n + 1 = s.n + 1 ∧ ¬ s.n + 1 = n ∧ ¬ s.n + 1 = n + 1) ∧ (¬ n = s.n + 1 + 1 ∧ ¬ n + 1 = s.n + 1 + 1) ∧ (¬ n = s.n + 1 + 1 + 1 ∧ ¬ n + 1 = s.n + 1 + 1 + 1) := by omega
    rcases hv.cases hb with ⟨q1, q2⟩ | ⟨id, i1, i2, q1, q2⟩
    · obtain rfl := AL_nil q1
      simp (maxSteps := 400000) (dsimp := false) only [h2, h7, h8, h10, hpl, OL_len, axs, axw, aresL, afill, Value.oneCell', Nat.reduceLT, Nat.reduceLeDiff, Nat.reduceEqDiff, Nat.reduceAdd, Nat.reduceMul, Nat.reduceSub, Nat.reduceBEq, Int.reduceLE, Int.reduceLT, Int.reduceToNat, Int.reduceNeg, Int.reduceEq, axt, ftK, ft3, AAll, ftQ, ST, tys]
      refine ADraw.tree [] [(0, true), (1, true), (2, true), (3, true), (4, true), (5, true), (6, true), (7, true), (8, true)] 3 (.leaf [(9, true), (10, true), (11, true), (12, true)]) (.leaf [(10, true), (9, true), (11, true), (12, true)]) mixed (by kernel_rfl) ?_
      simp (maxSteps := 400000) (dsimp := false) only [h2, h7, h8, h10, hH1, hpl, hp0, hg, OL_len, he1l, t1, Nat.le_refl, axs, axw, aresL, afill, Value.oneCell', Nat.reduceLT, Nat.reduceLeDiff, Nat.reduceEqDiff, Nat.reduceAdd, Nat.reduceMul, Nat.reduceSub, Nat.reduceBEq, Int.reduceLE, Int.reduceLT, Int.reduceToNat, Int.reduceNeg, Int.reduceEq, axt, ftK, ft3, AAll, ftQ, ST, tys]
      refine ACallP.pure rfl (cs) ?_; simp (maxSteps := 400000) (dsimp := false) only [h2, h7, h8, h10, hH1, he1l, he2l, t1, t2, d1, Nat.le_refl, hn3, hne, q2, List.append_nil, hw, axs, axw, aresL, afill, Value.oneCell', Nat.reduceLT, Nat.reduceLeDiff, Nat.reduceEqDiff, Nat.reduceAdd, Nat.reduceMul, Nat.reduceSub, Nat.reduceBEq, Int.reduceLE, Int.reduceLT, Int.reduceToNat, Int.reduceNeg, Int.reduceEq, axt, ftK, ft3, AAll, ftQ, ST, tys]
      refine ⟨?_, ?_⟩ <;> exact ⟨hlt, by omega, ⟨e0, he0, hH0⟩, ⟨e2, he2, rfl⟩, Live.mk (upd_same _ _ _) rfl, fun id z o m e => by cases e; omega⟩
    · have hid2 := hid _ _ _ _ q1
      rw [AL_len] at q1
      have hn4 : (¬ id = s.n ∧ ¬ s.n = id ∧ ¬ id = s.n + 1 ∧ ¬ s.n + 1 = id ∧ ¬ id = s.n + 1 + 1 ∧ ¬ s.n + 1 + 1 = id) ∧ (¬ id = n ∧ ¬ n = id ∧ ¬ id = n + 1 ∧ ¬ n + 1 = id) := by omega
      simp (maxSteps := 400000) (dsimp := false) only [h2, h7, h8, h10, hpl, OL_len, axs, axw, aresL, afill, Value.oneCell', Nat.reduceLT, Nat.reduceLeDiff, Nat.reduceEqDiff, Nat.reduceAdd, Nat.reduceMul, Nat.reduceSub, Nat.reduceBEq, Int.reduceLE, Int.reduceLT, Int.reduceToNat, Int.reduceNeg, Int.reduceEq, axt, ftK, ft3, AAll, ftQ, ST, tys]
      refine ADraw.tree [] [(0, true), (1, true), (2, true), (3, true), (4, true), (5, true), (6, true), (7, true), (8, true)] 3 (.leaf [(9, true), (10, true), (11, true), (12, true)]) (.leaf [(10, true), (9, true), (11, true), (12, true)]) mixed (by kernel_rfl) ?_
      simp (maxSteps := 400000) (dsimp := false) only [h2, h7, h8, h10, hH1, hpl, hp0, hg, OL_len, he1l, t1, Nat.le_refl, axs, axw, aresL, afill, Value.oneCell', Nat.reduceLT, Nat.reduceLeDiff, Nat.reduceEqDiff, Nat.reduceAdd, Nat.reduceMul, Nat.reduceSub, Nat.reduceBEq, Int.reduceLE, Int.reduceLT, Int.reduceToNat, Int.reduceNeg, Int.reduceEq, axt, ftK, ft3, AAll, ftQ, ST, tys]
      refine ACallP.pure rfl (cs) ?_; simp (maxSteps := 400000) (dsimp := false) only [h2, h7, h8, h10, hH1, he1l, he2l, t1, t2, d1, Nat.le_refl, hn3, hn4, hne, q1, q2, b1, b2, AL_len, List.append_nil, hw, axs, axw, aresL, afill, Value.oneCell', Nat.reduceLT, Nat.reduceLeDiff, Nat.reduceEqDiff, Nat.reduceAdd, Nat.reduceMul, Nat.reduceSub, Nat.reduceBEq, Int.reduceLE, Int.reduceLT, Int.reduceToNat, Int.reduceNeg, Int.reduceEq, axt, ftK, ft3, AAll, ftQ, ST, tys]
      refine ⟨?_, ?_⟩ <;> exact ⟨hlt, by omega, ⟨e0, he0, hH0⟩, ⟨e2, he2, rfl⟩, Live.mk (upd_same _ _ _) (by simp [AL_len]), fun id z o m e => by cases e; omega⟩
  · have hpl : ¬ (i : Int) < l.length := by omega
    rw [List.take_of_length_le hge] at he1 hv r3
    have he1l : e1.length = 24 := by
      unfold MS.av ST at he1
      cases he1
      rfl
    have t1 : List.take 24 e1 = e1 := List.take_of_length_le (by omega)
    have d0 : List.drop 24 e0 = [] := List.drop_of_length_le (by omega)
    simp (maxSteps := 400000) (dsimp := false) only [h2, h7, h8, h10, hpl, OL_len, axs, axw, aresL, afill, Value.oneCell', Nat.reduceLT, Nat.reduceLeDiff, Nat.reduceEqDiff, Nat.reduceAdd, Nat.reduceMul, Nat.reduceSub, Nat.reduceBEq, Int.reduceLE, Int.reduceLT, Int.reduceToNat, Int.reduceNeg, Int.reduceEq, axt, ftK, ft3, AAll, ftQ, ST, tys]
    refine ADraw.planR [] [(0, true), (1, true), (2, true), (3, true)] [(0, false), (0, false), (0, false), (0, false)] mixed (by kernel_rfl) (by kernel_rfl) ?_
    simp (maxSteps := 400000) (dsimp := false) only [h2, h7, h8, h10, hH0, hH1, he1l, t1, d0, Nat.le_refl, hne, List.append_nil, axs, axw, aresL, afill, Value.oneCell', Nat.reduceLT, Nat.reduceLeDiff, Nat.reduceEqDiff, Nat.reduceAdd, Nat.reduceMul, Nat.reduceSub, Nat.reduceBEq, Int.reduceLE, Int.reduceLT, Int.reduceToNat, Int.reduceNeg, Int.reduceEq, axt, ftK, ft3, AAll, ftQ, ST, tys]
    have hno : noIdsL e1 = true := by
      have : noIds (AV.agg e1) = true := by
        rw [he1]
        unfold MS.av ST
        simp [noIds, noIdsL, noIdsE_PR, NV.ok']
      simpa [noIds] using this
    rw [← he1]
    refine ⟨_, rfl, Sees.tup ?_⟩
    simp only [SeesL]
    refine ⟨Live.sees (te := 61) ?_ (noIdsE_AL _), Sees.same (by simpa [noIds] using hno), trivial⟩
    rcases hv with ⟨q1, q2⟩ | ⟨id, q1, q2⟩
    · exact .inl ⟨q1, q2⟩
    · have := hid _ _ _ _ q1
      exact .inr ⟨id, q1, (upd_ne _ _ (by omega)).trans q2⟩
end Go.Al
