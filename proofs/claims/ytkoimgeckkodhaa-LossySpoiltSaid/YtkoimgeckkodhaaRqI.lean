/- Low inter-reference recency: the reference cools. Conditions: the rows are short, and no hot key is in the queue. Low inter-reference recency, plainly: the acts keep the bounds; what they evict. Conditions: none. Low inter-reference recency, plainly: an admission, a drop, another capacity; each act. Conditions: none. Low inter-reference recency: the reference's acts. Conditions: the state is one that comes up. Low inter-reference recency: the reference admits, and takes another capacity. Conditions: the state is one that comes up. -/
import Derived.Test.YtkoimgeckkodhaaRqH
import Derived.Test.YtkoimgeckkodhaaRqA
section
set_option linter.unusedVariables false
set_option linter.unusedSimpArgs false
set_option maxRecDepth 20000
set_option maxHeartbeats 3200000
-- axs, axw, aresL, afill, Value.oneCell', Nat.reduceLT, Nat.reduceLeDiff, Nat.reduceEqDiff, Nat.reduceAdd, Nat.reduceMul, Nat.reduceSub, Nat.reduceBEq, Int.reduceLE, Int.reduceLT, Int.reduceToNat, Int.reduceNeg, Int.reduceEq, axt, ftK, ft3, AAll, ftQ, SL, tys: SL
-- NOIDS: noIdsE_IT
-- LENS: IT_len
namespace Go.Al.K12
open Go.Proofs
theorem see49db0 {p : Prop} (h : p := by repeat' (first | exact True.intro | exact Sees.sc | exact Sees.none | ((with_reducible refine Sees.same ?_) <;> simp [noIds, noIdsL, noIdsE, noIdsE_U, noIdsE_UU, noIdsE_IT] <;> fail) | (refine Live.sees ?_ ?_ <;> first | assumption | (simp [noIdsE_U, noIdsE_UU, noIdsE_IT] <;> fail)) | (refine Sees.obj ?_ ?_ ?_ <;> first | exact ⟨_, _, by assumption, rfl⟩ | (simp [U_len, UU_len, IT_len] <;> fail) | (simp [noIdsE_U, noIdsE_UU, noIdsE_IT] <;> fail) | (simp [U, UU, upd] <;> fail) | (simp [U, UU, upd, neS, *] <;> fail)) | (refine Sees.of_seen 3 ?_ <;> simp [seen, upd, noIdsE, noIdsL, noIds, U, UU, Nat.add_assoc] <;> fail) | refine Sees.agg ?_ | refine And.intro ?_ ?_ | simp only [SeesL])) : p := h
theorem see49db1 {p : Prop} (h : p := by repeat' (first | exact True.intro | exact Sees.sc | exact Sees.none | ((with_reducible refine Sees.same ?_) <;> simp [noIds, noIdsL, noIdsE, noIdsE_U, noIdsE_UU, noIdsE_IT] <;> fail) | (refine Live.sees ?_ ?_ <;> first | assumption | (simp [noIdsE_U, noIdsE_UU, noIdsE_IT] <;> fail)) | (refine Sees.obj ?_ ?_ ?_ <;> first | exact ⟨_, _, by assumption, rfl⟩ | (simp [U_len, UU_len, IT_len] <;> fail) | (simp [noIdsE_U, noIdsE_UU, noIdsE_IT] <;> fail) | (simp [U, UU, upd, neS] <;> fail) | (simp [U, UU, upd, neS, *] <;> fail)) | refine Sees.agg ?_ | refine Sees.tup ?_ | refine And.intro ?_ ?_ | simp only [SeesL])) : p := h
theorem rCool (s : LS) (hB : LiB s.S s.Q) (c0 : 1 ≤ s.C) (c1 : s.C ≤ 1048576) (hl : s.S.length ≤ 1000) (hq : s.Q.length ≤ 1000) : PCalls Try.prog 81 [SL s] (SL (coolL s)) := by
  have hm0 := many_le 2 s.S
  refine PCalls.intro2 Try.func81 rfl rfl Try.ntmps81 Try.results81 (by simp) fun n => ?_; simp (maxSteps := 400000) (dsimp := false) only [axs, axw, aresL, afill, Value.oneCell', Nat.reduceLT, Nat.reduceLeDiff, Nat.reduceEqDiff, Nat.reduceAdd, Nat.reduceMul, Nat.reduceSub, Nat.reduceBEq, Int.reduceLE, Int.reduceLT, Int.reduceToNat, Int.reduceNeg, Int.reduceEq, axt, ftK, ft3, AAll, ftQ, SL, tys]
  refine ALoop.intro (fun k t => t.t 1 = .ptr n 3 0 0 ∧ t.t 2 = .ptr (n + 1) 3 0 0 ∧ n + 1 < t.n ∧ t.H (n + 1) = some (.obj 46 3 [[.sc (.int .i64 0), .sc (.slice none 0 0), .sc (.slice none 0 0)]] false) ∧ ∃ x : LS, t.H n = some (.obj 46 3 [[.sc (.int .i64 x.C), .lst 2 (IT x.S), .lst 1 (U x.Q)]] false) ∧ cooled k x = coolL s ∧ many 2 x.S ≤ k ∧ x.C = s.C ∧ x.S.length ≤ 1000 ∧ x.Q.length + k ≤ 2000 ∧ LiB x.S x.Q) (many 2 s.S) ⟨rfl, rfl, (by show n + 1 < n + 1 + 1; omega), upd_same _ _ _, s, (upd_ne _ _ (by omega)).trans (upd_same _ _ _), rfl, Nat.le_refl _, rfl, hl, by omega, hB⟩ ?_
  rintro k t ⟨h1, h2, hlt, hH1, x, hH, hx, hmk, hC, hxl, hxq, hxB⟩
  have hne : (¬ n = n + 1 ∧ ¬ n + 1 = n) ∧ (¬ n = t.n ∧ ¬ t.n = n ∧ ¬ n + 1 = t.n ∧ ¬ t.n = n + 1) ∧ (¬ n = t.n + 1 ∧ ¬ t.n + 1 = n ∧ ¬ n + 1 = t.n + 1 ∧ ¬ t.n + 1 = n + 1) ∧ (¬ n = t.n + 1 + 1 ∧ ¬ t.n + 1 + 1 = n ∧ ¬ n + 1 = t.n + 1 + 1 ∧ ¬ t.n + 1 + 1 = n + 1) ∧ (¬ n = t.n + 1 + 1 + 1 ∧ ¬ t.n + 1 + 1 + 1 = n ∧ ¬ n + 1 = t.n + 1 + 1 + 1 ∧ ¬ t.n + 1 + 1 + 1 = n + 1) := by omega
  have cm := rMany x.S 2 (by omega)
  have cr := rRoom x.C (by omega) (by omega)
  have cl := rLowest x.S 2 (by omega)
  have hrm := roomOf_le (C := x.C) (by omega)
  simp (maxSteps := 400000) (dsimp := false) only [h1, h2, axs, axw, aresL, afill, Value.oneCell', Nat.reduceLT, Nat.reduceLeDiff, Nat.reduceEqDiff, Nat.reduceAdd, Nat.reduceMul, Nat.reduceSub, Nat.reduceBEq, Int.reduceLE, Int.reduceLT, Int.reduceToNat, Int.reduceNeg, Int.reduceEq, axt, ftK, ft3, AAll, ftQ, SL, tys]
  refine ADraw.planR [] [(0, true), (1, true), (2, true), (3, true), (4, true), (5, true), (6, true)] [(0, false), (0, false), (0, false), (0, false), (0, false), (0, false), (0, false)] mixed (by kernel_rfl) (by kernel_rfl) ?_
  simp (maxSteps := 400000) (dsimp := false) only [h1, h2, hH, axs, axw, aresL, afill, Value.oneCell', Nat.reduceLT, Nat.reduceLeDiff, Nat.reduceEqDiff, Nat.reduceAdd, Nat.reduceMul, Nat.reduceSub, Nat.reduceBEq, Int.reduceLE, Int.reduceLT, Int.reduceToNat, Int.reduceNeg, Int.reduceEq, axt, ftK, ft3, AAll, ftQ, SL, tys]
  by_cases hc : (many 2 x.S : Int) > roomOf x.C
  · obtain ⟨m, rfl⟩ : ∃ m, k = m + 1 := ⟨k - 1, by omega⟩
    have hx2 : cooled m (coolS x) = coolL s := by rw [← hx]; exact (if_pos hc).symm
    obtain ⟨A, y, B, g1, g2, g3, g4, g5, g6⟩ := coolS_at (s := x) hxB (by omega)
    obtain ⟨b1, _, _⟩ := coolS_ok (s := x) hxB (by omega)
    obtain ⟨i, hi⟩ : ∃ i : Nat, upTo 2 x.S = i + 1 := ⟨A.length, g2⟩
    have hiA : i = A.length := by omega
    have hxi : x.S[i]? = some y := by
      rw [g1, hiA, List.getElem?_append_right (Nat.le_refl _), Nat.sub_self]; rfl
    have hil := (List.getElem?_eq_some_iff.1 hxi).1
    have e5 : (upTo 2 x.S : Int) - 1 = (i : Int) := by omega
    rw [e5] at cl
    have hg := IT_get hxi
    have i0 : (0 : Int) ≤ (i : Int) := by omega
    have i1 : (i : Int) < x.S.length := by omega
    obtain ⟨n1, n2⟩ := coolS_len x
    have n3 := coolS_many (s := x) (by omega)
    have hsk : setKd x.S i 1 = A ++ (y.1, 1) :: B := by rw [g1, hiA]; exact setKd_at A B y 1
    have ck := rSet x.S i 1 hil (by omega)
    rw [hsk] at ck
    have hTl : (A ++ (y.1, 1) :: B).length ≤ 1000 := by rw [← hsk, setKd_len]; exact hxl
    have cp := rPrune ⟨x.C, A ++ (y.1, 1) :: B, x.Q ++ [y.1]⟩ (by show (A ++ (y.1, 1) :: B).length ≤ _; omega)
    have cp : PCalls Try.prog 78 [SL ⟨x.C, A ++ (y.1, 1) :: B, x.Q ++ [y.1]⟩] (SL (coolS x)) := by rw [g6]; exact cp
    have q1 : x.Q.length * 8 ≤ 140737488355328 := by omega
    have q2 : x.Q.length ≤ 1099511627776 := by omega
    have q3 : (x.Q.length + 1) * 8 ≤ 140737488355328 := by omega
    have q4 : x.Q.length + 1 ≤ 1099511627776 := by omega
    have hsn : U x.Q ++ [[.sc (.int .u64 y.1)]] = U (x.Q ++ [y.1]) := (U_snoc _ _).symm
    generalize hT : A ++ (y.1, 1) :: B = T at *
    refine ACallP.pure rfl (cm) ?_; simp (maxSteps := 400000) (dsimp := false) only [h1, h2, hH, axs, axw, aresL, afill, Value.oneCell', Nat.reduceLT, Nat.reduceLeDiff, Nat.reduceEqDiff, Nat.reduceAdd, Nat.reduceMul, Nat.reduceSub, Nat.reduceBEq, Int.reduceLE, Int.reduceLT, Int.reduceToNat, Int.reduceNeg, Int.reduceEq, axt, ftK, ft3, AAll, ftQ, SL, tys]
    refine ACallP.pure rfl (cr) ?_; simp (maxSteps := 400000) (dsimp := false) only [h1, h2, hH, hc, axs, axw, aresL, afill, Value.oneCell', Nat.reduceLT, Nat.reduceLeDiff, Nat.reduceEqDiff, Nat.reduceAdd, Nat.reduceMul, Nat.reduceSub, Nat.reduceBEq, Int.reduceLE, Int.reduceLT, Int.reduceToNat, Int.reduceNeg, Int.reduceEq, axt, ftK, ft3, AAll, ftQ, SL, tys]
    refine ACallK.strict rfl (cl) (by simp only [SeesL, h1, h2, hH, hg, i0, i1, IT_len, axs, axt, AS.ev, AS.put, upd, inHeap, Nat.reduceLT, Nat.reduceEqDiff, Nat.reduceAdd, Nat.reduceBEq, SL]; exact see49db0) ?_; simp (maxSteps := 400000) (dsimp := false) only [h1, h2, hH, hg, i0, i1, IT_len, axs, axw, aresL, afill, Value.oneCell', Nat.reduceLT, Nat.reduceLeDiff, Nat.reduceEqDiff, Nat.reduceAdd, Nat.reduceMul, Nat.reduceSub, Nat.reduceBEq, Int.reduceLE, Int.reduceLT, Int.reduceToNat, Int.reduceNeg, Int.reduceEq, axt, ftK, ft3, AAll, ftQ, SL, tys]
    refine ACallK.strict rfl (ck) (by simp only [SeesL, h1, h2, hH, hH1, hne, q1, q2, q3, q4, U_len, hsn, axs, axt, AS.ev, AS.put, upd, inHeap, Nat.reduceLT, Nat.reduceEqDiff, Nat.reduceAdd, Nat.reduceBEq, SL]; exact see49db0) ?_; simp (maxSteps := 400000) (dsimp := false) only [h1, h2, hH, hH1, hne, q1, q2, q3, q4, U_len, hsn, axs, axw, aresL, afill, Value.oneCell', Nat.reduceLT, Nat.reduceLeDiff, Nat.reduceEqDiff, Nat.reduceAdd, Nat.reduceMul, Nat.reduceSub, Nat.reduceBEq, Int.reduceLE, Int.reduceLT, Int.reduceToNat, Int.reduceNeg, Int.reduceEq, axt, ftK, ft3, AAll, ftQ, SL, tys]
    refine ACallK.shutO (id := t.n + 1 + 1 + 1) ((upd_ne _ _ (by omega)).trans (upd_same _ _ _)) ?_
    refine ACallK.strict rfl (cp) (by simp only [SeesL, h1, h2, hH1, hne, axs, axt, AS.ev, AS.put, upd, inHeap, Nat.reduceLT, Nat.reduceEqDiff, Nat.reduceAdd, Nat.reduceBEq, SL]; exact see49db0) ?_; simp (maxSteps := 400000) (dsimp := false) only [h1, h2, hH1, hne, axs, axw, aresL, afill, Value.oneCell', Nat.reduceLT, Nat.reduceLeDiff, Nat.reduceEqDiff, Nat.reduceAdd, Nat.reduceMul, Nat.reduceSub, Nat.reduceBEq, Int.reduceLE, Int.reduceLT, Int.reduceToNat, Int.reduceNeg, Int.reduceEq, axt, ftK, ft3, AAll, ftQ, SL, tys]
    exact ⟨m, by omega, by omega, coolS x, rfl, hx2, by omega, hC, by omega, by omega, b1⟩
  · rw [cooled_stop hc] at hx
    refine ACallP.pure rfl (cm) ?_; simp (maxSteps := 400000) (dsimp := false) only [h1, h2, hH, axs, axw, aresL, afill, Value.oneCell', Nat.reduceLT, Nat.reduceLeDiff, Nat.reduceEqDiff, Nat.reduceAdd, Nat.reduceMul, Nat.reduceSub, Nat.reduceBEq, Int.reduceLE, Int.reduceLT, Int.reduceToNat, Int.reduceNeg, Int.reduceEq, axt, ftK, ft3, AAll, ftQ, SL, tys]
    refine ACallP.pure rfl (cr) ?_; simp (maxSteps := 400000) (dsimp := false) only [h1, h2, hH, hc, hH1, hne, axs, axw, aresL, afill, Value.oneCell', Nat.reduceLT, Nat.reduceLeDiff, Nat.reduceEqDiff, Nat.reduceAdd, Nat.reduceMul, Nat.reduceSub, Nat.reduceBEq, Int.reduceLE, Int.reduceLT, Int.reduceToNat, Int.reduceNeg, Int.reduceEq, axt, ftK, ft3, AAll, ftQ, SL, tys]
    rw [← hx]
    refine ⟨_, rfl, ?_⟩; simp (maxSteps := 400000) (dsimp := false) only [SeesL, axs, axw, aresL, afill, Value.oneCell', Nat.reduceLT, Nat.reduceLeDiff, Nat.reduceEqDiff, Nat.reduceAdd, Nat.reduceMul, Nat.reduceSub, Nat.reduceBEq, Int.reduceLE, Int.reduceLT, Int.reduceToNat, Int.reduceNeg, Int.reduceEq, axt, ftK, ft3, AAll, ftQ, SL, tys] <;> exact see49db1
end Go.Al.K12
end
section
set_option linter.unusedVariables false
set_option linter.unusedSimpArgs false
namespace Go.Al.K12
theorem without_perm {k : Int} : ∀ {l : List Int}, l.Nodup → k ∈ l → (k :: without l k).Perm l
  | [], _, h => by cases h
  | a :: l, hn, h => by
    rw [List.nodup_cons] at hn
    by_cases e : a = k
    · subst e
      have : without (a :: l) a = l := by
        have h2 := without_same hn.1
        unfold without at h2 ⊢
        rw [List.filter_cons_of_neg (by simp)]; exact h2
      rw [this]
    · have hl : k ∈ l := (List.mem_cons.1 h).resolve_left (fun e2 => e e2.symm)
      have : without (a :: l) k = a :: without l k := by
        unfold without
        rw [List.filter_cons_of_pos (by simpa using e)]
      rw [this]
      exact (List.Perm.swap a k _).trans ((without_perm hn.2 hl).cons a)
theorem len_sub : ∀ {l m : List Int}, l.Nodup → (∀ x ∈ l, x ∈ m) → l.length ≤ m.length
  | [], m, _, _ => Nat.zero_le _
  | a :: l, m, hn, hs => by
    rw [List.nodup_cons] at hn
    have ha := hs a List.mem_cons_self
    have := len_sub (l := l) (m := m.erase a) hn.2 fun x hx => (List.mem_erase_of_ne (fun e => hn.1 (by rw [← e]; exact hx))).2 (hs x (List.mem_cons_of_mem _ hx))
    rw [List.length_erase_of_mem ha] at this
    have h0 : 0 < m.length := List.length_pos_iff.2 (List.ne_nil_of_mem ha)
    rw [List.length_cons]; omega
/-- A state that comes up. -/
structure LiOk (s : LS) : Prop where
  c0 : 1 ≤ s.C
  c1 : s.C ≤ 14
  b : LiB s.S s.Q
  hr : (many 2 s.S : Int) ≤ roomOf s.C
  hc : (many 2 s.S : Int) + s.Q.length ≤ s.C
  hg : (many 0 s.S : Int) ≤ s.C
  he : HotEnd s.S
theorem LiB.len {S : List (Int × Int)} {Q : List Int} (h : LiB S Q) : S.length ≤ many 0 S + many 2 S + Q.length := by
  have h1 : S.length ≤ many 0 S + many 2 S + many 1 S := by
    have hk := h.kd
    clear h
    induction S with
    | nil => exact Nat.zero_le _
    | cons x S ih =>
      have := ih fun y hy => hk y (List.mem_cons_of_mem _ hy)
      rw [many_cons, many_cons, many_cons, List.length_cons]
      rcases hk x List.mem_cons_self with e | e | e <;> rw [e] <;> simp <;> omega
  have h2 : many 1 S ≤ Q.length := by
    have hm : many 1 S = ((S.filter fun x => decide (x.2 = 1)).map Prod.fst).length := by rw [List.length_map]; rfl
    rw [hm]
    refine len_sub (h.sn.sublist (List.filter_sublist.map _)) fun x hx => ?_
    obtain ⟨y, hy, rfl⟩ := List.mem_map.1 hx
    rw [List.mem_filter] at hy
    exact (h.cq y hy.1).2 (by simpa using hy.2)
  omega
theorem LiOk.bounds {s : LS} (h : LiOk s) : s.S.length ≤ 28 ∧ s.Q.length ≤ 14 := by
  have := h.b.len
  have := h.c1
  have := h.hc
  have := h.hg
  omega
theorem LiOk.keys_len {s : LS} (h : LiOk s) : ((liKeys s).length : Int) ≤ s.C := by
  rw [liKeys_len]
  have := h.hc
  omega
theorem LiOk.keys {s : LS} (h : LiOk s) : (liKeys s).Nodup := h.b.keys
/-- Put together. -/
theorem LiOk.of {s t : LS} (h : LiOk s) (hC : t.C = s.C) (hb : LiB t.S t.Q) (hr : (many 2 t.S : Int) ≤ roomOf s.C) (hk : ((liKeys t).length : Int) ≤ s.C) (hg : (many 0 t.S : Int) ≤ s.C) (he : HotEnd t.S) : LiOk t :=
  ⟨by rw [hC]; exact h.c0, by rw [hC]; exact h.c1, hb, by rw [hC]; exact hr, by rw [hC]; rw [liKeys_len] at hk; omega, by rw [hC]; exact hg, he⟩
theorem liKeys_prune (s : LS) : liKeys (pruneL s) = liKeys s := by unfold liKeys pruneL; rw [hotK_pruned]
theorem many_of_hot {A B : List (Int × Int)} (h : hotK A = hotK B) : many 2 A = many 2 B := by rw [← hotK_len, h, hotK_len]
theorem hotAt_mem {s : LS} {k : Int} (h : hotAt s k) : (k, 2) ∈ s.S := by
  obtain ⟨h1, h2⟩ := h
  obtain ⟨A, x, B, d1, d2, d3, d4⟩ := idxK_hit h1
  rw [d2, show ((A.length : Nat) : Int).toNat = A.length from rfl, List.getD_eq_getElem?_getD, d1, List.getElem?_append_right (Nat.le_refl _), Nat.sub_self] at h2
  have h2 : x.2 = 2 := h2
  have : x = (k, 2) := by rw [← d3, ← h2]
  rw [d1, ← this]
  simp
theorem LiOk.touch {s : LS} (h : LiOk s) (k : Int) : LiOk (liTouch s k) ∧ (liKeys (liTouch s k)).Perm (liKeys s) := by
  have hb := h.b
  have hcur := h.keys_len
  unfold liTouch
  by_cases h1 : hotAt s k
  · rw [if_pos h1]
    have hm := hotAt_mem h1
    have hmk := mem_hotK.2 hm
    have hT : hotK ((k, 2) :: remK s.S k) = k :: without (hotK s.S) k := by rw [hotK_cons, if_pos rfl, hotK_remK hb.sn]; rfl
    have hperm : (k :: without (hotK s.S) k).Perm (hotK s.S) := without_perm hb.hot_nodup hmk
    have hB : LiB ((k, 2) :: remK s.S k) s.Q := hb.put k (.inr rfl) hb.qn (fun _ _ => Iff.rfl) ⟨fun hq => absurd hq (hb.hot_out hmk), fun e => by omega⟩
    have hk : (liKeys (pruneL (stkL s k 2))).Perm (liKeys s) := by
      rw [liKeys_prune]
      show (hotK ((k, 2) :: remK s.S k) ++ s.Q).Perm _
      rw [hT]
      exact hperm.append_right _
    have hm2 : many 2 (pruned ((k, 2) :: remK s.S k)) = many 2 s.S := by rw [many_pruned, ← hotK_len, hT, hperm.length_eq, hotK_len]
    refine ⟨h.of rfl (hB.sub (pruned_sub _)) (by show (many 2 (pruned ((k, 2) :: remK s.S k)) : Int) ≤ _; rw [hm2]; exact h.hr) (by rw [hk.length_eq]; exact hcur) ?_ (hotEnd_pruned _), hk⟩
    have g1 := many_sub (pruned_sub ((k, 2) :: remK s.S k)) 0
    have g2 := many_sub (remK_sub s.S k) 0
    rw [many_cons, if_neg (by simp)] at g1
    have := h.hg
    show (many 0 (pruned ((k, 2) :: remK s.S k)) : Int) ≤ _
    omega
  · rw [if_neg h1]
    by_cases h2 : k ∈ s.Q
    · rw [if_neg (fun h => h h2)]
      have hkn : k ∉ hotK s.S := fun hk => hb.hot_out hk h2
      have hqp : (k :: without s.Q k).Perm s.Q := without_perm hb.qn h2
      by_cases h3 : idxK s.S k ≥ 0
      · rw [if_pos h3]
        have hB : LiB ((k, 2) :: remK s.S k) (without s.Q k) := hb.put k (.inr rfl) (without_nodup k hb.qn) (fun x hx => by rw [mem_without]; exact ⟨fun h => h.1, fun h => ⟨h, hx⟩⟩) ⟨fun hq => absurd rfl (mem_without.1 hq).2, fun e => by omega⟩
        obtain ⟨a1, a2, a3⟩ := coolL_ok (s := ⟨s.C, (k, 2) :: remK s.S k, without s.Q k⟩) h.c0 hB
        obtain ⟨f1, f2, f3, f4⟩ := coolL_facts ⟨s.C, (k, 2) :: remK s.S k, without s.Q k⟩ h.c0
        have hk0 : (liKeys ⟨s.C, (k, 2) :: remK s.S k, without s.Q k⟩).Perm (liKeys s) := by
          unfold liKeys
          rw [hotK_cons, if_pos rfl, hotK_remK hb.sn, without_same hkn]
          exact (List.perm_middle (a := k) (l₁ := hotK s.S) (l₂ := without s.Q k)).symm.trans (hqp.append_left _)
        simp only at a3 f1 f4
        generalize coolL ⟨s.C, (k, 2) :: remK s.S k, without s.Q k⟩ = t at *
        have hk : (liKeys (pruneL t)).Perm (liKeys s) := by rw [liKeys_prune]; exact a2.trans hk0
        refine ⟨h.of f1 (a1.sub (pruned_sub _)) (by show (many 2 (pruned t.S) : Int) ≤ _; rw [many_pruned]; exact f4) (by rw [hk.length_eq]; exact hcur) ?_ (hotEnd_pruned _), hk⟩
        have g1 := many_sub (pruned_sub t.S) 0
        have g2 := many_sub (remK_sub s.S k) 0
        rw [many_cons, if_neg (by simp)] at a3
        have := h.hg
        show (many 0 (pruned t.S) : Int) ≤ _
        omega
      · rw [if_neg h3]
        have hB : LiB ((k, 1) :: remK s.S k) (lastQ s.Q k) := hb.put k (.inl rfl) (lastQ_nodup k hb.qn) (fun x hx => mem_lastQ hx) ⟨fun _ => rfl, fun _ => self_lastQ _ _⟩
        have hT : hotK ((k, 1) :: remK s.S k) = hotK s.S := by rw [hotK_cons, if_neg (by simp), hotK_remK hb.sn, without_same hkn]; rfl
        have hk : (liKeys (pruneL (behindL (stkL s k 1) k))).Perm (liKeys s) := by
          rw [liKeys_prune]
          show (hotK ((k, 1) :: remK s.S k) ++ lastQ s.Q k).Perm (hotK s.S ++ s.Q)
          rw [hT]
          exact ((List.perm_append_singleton k (without s.Q k)).trans hqp).append_left _
        have hm2 : many 2 (pruned ((k, 1) :: remK s.S k)) = many 2 s.S := by rw [many_pruned]; exact many_of_hot hT
        refine ⟨h.of rfl (hB.sub (pruned_sub _)) (by show (many 2 (pruned ((k, 1) :: remK s.S k)) : Int) ≤ _; rw [hm2]; exact h.hr) (by rw [hk.length_eq]; exact hcur) ?_ (hotEnd_pruned _), hk⟩
        have g1 := many_sub (pruned_sub ((k, 1) :: remK s.S k)) 0
        have g2 := many_sub (remK_sub s.S k) 0
        rw [many_cons, if_neg (by simp)] at g1
        have := h.hg
        show (many 0 (pruned ((k, 1) :: remK s.S k)) : Int) ≤ _
        omega
    · rw [if_pos h2]
      exact ⟨h, List.Perm.refl _⟩
end Go.Al.K12
end
section
set_option linter.unusedVariables false
set_option linter.unusedSimpArgs false
namespace Go.Al.K12
/-- A key that comes. -/
theorem liCome_ok {t : LS} {k : Int} (c0 : 1 ≤ t.C) (hb : LiB t.S t.Q) (hr : (many 2 t.S : Int) ≤ roomOf t.C) (hk : k ∉ liKeys t) : (liCome t k).C = t.C ∧ LiB (liCome t k).S (liCome t k).Q ∧ (liKeys (liCome t k)).Perm (k :: liKeys t) ∧ (many 2 (liCome t k).S : Int) ≤ roomOf t.C := by
  have hkn : k ∉ hotK t.S := fun h => hk (List.mem_append_left _ h)
  have hkq : k ∉ t.Q := fun h => hk (List.mem_append_right _ h)
  unfold liCome
  split
  · have hB : LiB ((k, 2) :: remK t.S k) t.Q := hb.put k (.inr rfl) hb.qn (fun _ _ => Iff.rfl) ⟨fun hq => absurd hq hkq, fun e => by omega⟩
    obtain ⟨a1, a2, a3⟩ := coolL_ok (s := stkL t k 2) c0 hB
    obtain ⟨f1, f2, f3, f4⟩ := coolL_facts (stkL t k 2) c0
    refine ⟨f1, a1, a2.trans ?_, f4⟩
    show (hotK ((k, 2) :: remK t.S k) ++ t.Q).Perm (k :: (hotK t.S ++ t.Q))
    rw [hotK_cons, if_pos rfl, hotK_remK hb.sn, without_same hkn]
    exact List.Perm.refl _
  · have hT : hotK ((k, 1) :: remK t.S k) = hotK t.S := by rw [hotK_cons, if_neg (by simp), hotK_remK hb.sn, without_same hkn]; rfl
    refine ⟨rfl, hb.put k (.inl rfl) (lastQ_nodup k hb.qn) (fun x hx => mem_lastQ hx) ⟨fun _ => rfl, fun _ => self_lastQ _ _⟩, ?_, ?_⟩
    · show (hotK ((k, 1) :: remK t.S k) ++ lastQ t.Q k).Perm (k :: (hotK t.S ++ t.Q))
      rw [hT, lastQ_new hkq, ← List.append_assoc]
      exact List.perm_append_singleton k _
    · show (many 2 ((k, 1) :: remK t.S k) : Int) ≤ _
      rw [many_of_hot hT]; exact hr
theorem LiOk.admit {s : LS} (h : LiOk s) {k : Int} (hk : k ∉ liKeys s) : LiOk (liAdmit s k).1 ∧ ∃ R, ((liAdmit s k).2 ++ R).Perm (liKeys s) ∧ (liKeys (liAdmit s k).1).Perm (k :: R) := by
  have hr0 := roomOf_le h.c0
  have hr := h.hr
  have hn := h.keys
  obtain ⟨b1, b2, b3, b4⟩ := shrinkL_ok (z := s.C - 1) h.b (by omega)
  obtain ⟨f1, f2, f3, f4, f5⟩ := shrunk_facts (s.C - 1) s.Q.length s []
  change (shrinkL (s.C - 1) s).1.C = _ at f1
  unfold liAdmit
  rw [if_neg hk]
  have hl := b3.length_eq
  have hkl := liKeys_len s
  generalize shrinkL (s.C - 1) s = r at *
  obtain ⟨t, out⟩ := r
  simp only at b1 b2 b3 b4 f1 hl ⊢
  have hkt : k ∉ liKeys t := fun h => hk (b3.subset (List.mem_append_right _ h))
  obtain ⟨c1, c2, c3, c4⟩ := liCome_ok (t := t) (k := k) (by rw [f1]; exact h.c0) b1 (by rw [many_of_hot b2, f1]; exact hr) hkt
  generalize liCome t k = u at *
  obtain ⟨g1, g2, g3, g4, g5, g6⟩ := forgetL_ok (s := pruneL u) (by show 0 ≤ u.C; rw [c1, f1]; omega) (c2.sub (pruned_sub _)) (hotEnd_pruned _)
  have hK : liKeys (forgetL (pruneL u)) = liKeys u := by
    rw [← liKeys_prune u]
    unfold liKeys
    rw [g2, g6]
  have hC : (forgetL (pruneL u)).C = s.C := g5.trans (c1.trans f1)
  have hp : (liKeys (forgetL (pruneL u))).Perm (k :: liKeys t) := by rw [hK]; exact c3
  refine ⟨h.of hC g1 ?_ ?_ (by rw [show s.C = (pruneL u).C from (c1.trans f1).symm]; exact g3) g4, liKeys t, b3, hp⟩
  · rw [many_of_hot g2]
    show (many 2 (pruned u.S) : Int) ≤ _
    rw [many_pruned, ← f1]; exact c4
  · rw [hp.length_eq, List.length_cons]
    rw [List.length_append] at hl
    have := h.keys_len
    omega
theorem LiOk.drop {s : LS} (h : LiOk s) (k : Int) : LiOk (liDrop s k) ∧ liKeys (liDrop s k) = without (liKeys s) k := by
  have hb := h.b
  have hK : liKeys (liDrop s k) = without (liKeys s) k := by
    unfold liDrop
    rw [liKeys_prune]
    unfold liKeys
    rw [hotK_remK hb.sn]
    simp [without]
  have hB : LiB (remK s.S k) (without s.Q k) := by
    have h1 := hb.sub (remK_sub s.S k)
    refine ⟨h1.sn, without_nodup k hb.qn, h1.kd, fun x hx => ?_⟩
    rw [← h1.cq x hx, mem_without]
    exact ⟨fun h => h.1, fun h => ⟨h, ((mem_remK hb.sn).1 hx).2⟩⟩
  have hm := many_sub (remK_sub s.S k) 2
  have hm0 := many_sub ((pruned_sub (remK s.S k)).trans (remK_sub s.S k)) 0
  have := h.hr
  have := h.hg
  refine ⟨h.of rfl (hB.sub (pruned_sub _)) ?_ ?_ (by show (many 0 (pruned (remK s.S k)) : Int) ≤ _; omega) (hotEnd_pruned _), hK⟩
  · show (many 2 (pruned (remK s.S k)) : Int) ≤ _
    rw [many_pruned]; omega
  · rw [hK]
    have := without_len (liKeys s) k
    have := h.keys_len
    omega
theorem LiOk.resize {s : LS} (h : LiOk s) {c : Int} (h0 : 1 ≤ capOf c) (h1 : capOf c ≤ 14) : LiOk (liResize s c).1 ∧ ∃ R, ((liResize s c).2 ++ R).Perm (liKeys s) ∧ (liKeys (liResize s c).1).Perm R ∧ ((liResize s c).2.length : Int) = max (((liKeys s).length : Int) - capOf c) 0 := by
  have hr0 := roomOf_le h0
  obtain ⟨a1, a2, a3⟩ := coolL_ok (s := ⟨capOf c, s.S, s.Q⟩) h0 h.b
  obtain ⟨e1, e2, e3, e4⟩ := coolL_facts ⟨capOf c, s.S, s.Q⟩ h0
  unfold liResize
  simp only at e1 e4
  have a2 : (liKeys (coolL ⟨capOf c, s.S, s.Q⟩)).Perm (liKeys s) := a2
  generalize coolL ⟨capOf c, s.S, s.Q⟩ = w at *
  obtain ⟨b1, b2, b3, b4⟩ := shrinkL_ok (z := capOf c) a1 (by omega)
  obtain ⟨f1, f2, f3, f4, f5⟩ := shrunk_facts (capOf c) w.Q.length w []
  change (shrinkL (capOf c) w).1.C = _ at f1
  have hl := b3.length_eq
  have hlw := a2.length_eq
  have hkw := liKeys_len w
  generalize shrinkL (capOf c) w = r at *
  obtain ⟨t, out⟩ := r
  simp only at b1 b2 b3 b4 f1 hl ⊢
  obtain ⟨g1, g2, g3, g4, g5, g6⟩ := forgetL_ok (s := pruneL t) (by show 0 ≤ t.C; rw [f1, e1]; omega) (b1.sub (pruned_sub _)) (hotEnd_pruned _)
  have hK : liKeys (forgetL (pruneL t)) = liKeys t := by
    rw [← liKeys_prune t]
    unfold liKeys
    rw [g2, g6]
  have hC : (forgetL (pruneL t)).C = capOf c := g5.trans (f1.trans e1)
  rw [List.length_append] at hl
  refine ⟨⟨by rw [hC]; exact h0, by rw [hC]; exact h1, g1, ?_, ?_, ?_, g4⟩, liKeys t, b3.trans a2, by rw [hK], by omega⟩
  · rw [many_of_hot g2, hC]
    show (many 2 (pruned t.S) : Int) ≤ _
    rw [many_pruned, many_of_hot b2]; exact e4
  · have := liKeys_len (forgetL (pruneL t))
    rw [hK] at this
    rw [hC]
    omega
  · rw [hC]
    have g3 : _ ≤ t.C := g3
    rw [f1, e1] at g3
    exact g3
def liDo (s : LS) (a : Deed) : LS × List Int :=
  if kindOf a (decide (a.key ∈ liKeys s)) = 1 then (liTouch s a.key, [])
  else if kindOf a (decide (a.key ∈ liKeys s)) = 2 then liAdmit s a.key
  else if kindOf a (decide (a.key ∈ liKeys s)) = 3 then (liDrop s a.key, [])
  else liResize s (sizeOf' a)
/-- What goes and what comes, as rows in any order. -/
theorem ev_perm {was is out R N : List Int} {kind key size : Int} {there : Bool} (hn : was.Nodup) (hp : (out ++ R).Perm was) (hi : is.Perm (N ++ R)) (hN : ∀ x ∈ N, x ∉ was) (hl : N.length = if kind = 2 ∧ there = false then 1 else 0) (h3 : kind ≠ 3) (sz : kind = 4 → (out.length : Int) = max ((was.length : Int) - size) 0) : EvOk was is out kind there key size := by
  have hnd := hp.nodup_iff.2 hn
  rw [List.nodup_append] at hnd
  refine ⟨fun x hx => ⟨hp.subset (List.mem_append_left _ hx), fun hx2 => ?_⟩, fun x hx => ?_, apart_iff.2 hnd.1, ?_, sz⟩
  · rcases List.mem_append.1 (hi.subset hx2) with h | h
    · exact hN x h (hp.subset (List.mem_append_left _ hx))
    · exact hnd.2.2 x hx x h rfl
  · rcases List.mem_append.1 (hp.symm.subset hx) with h | h
    · exact .inl h
    · exact .inr (.inl (hi.symm.subset (List.mem_append_right _ h)))
  · have h1 := hp.length_eq
    have h2 := hi.length_eq
    rw [List.length_append] at h1 h2
    rw [if_neg (c := kind = 3 ∧ there = true) (fun h => h3 h.1)]
    by_cases h : kind = 2 ∧ there = false
    · rw [if_pos h] at hl ⊢; omega
    · rw [if_neg h] at hl ⊢; omega
theorem LiOk.act {s : LS} (h : LiOk s) {a : Deed} (ha : a.Fits) : LiOk (liDo s a).1 ∧ EvOk (liKeys s) (liKeys (liDo s a).1) (liDo s a).2 (kindOf a (decide (a.key ∈ liKeys s))) (decide (a.key ∈ liKeys s)) a.key (sizeOf' a) := by
  have hs := sizeOf_le ha
  have hcs : capOf (sizeOf' a) = sizeOf' a := capOf_same (by omega) (by omega)
  rcases kindOf_cases a (decide (a.key ∈ liKeys s)) with e | e | e | e
  · have : liDo s a = (liTouch s a.key, []) := by unfold liDo; rw [if_pos e]
    rw [this, e]
    obtain ⟨h1, h2⟩ := h.touch a.key
    exact ⟨h1, ev_perm (R := liKeys s) (N := []) h.keys (List.Perm.refl _) h2 (fun x hx => (nomatch hx)) (by rw [if_neg (fun h => by have := h.1; omega)]; rfl) (by omega) (fun h => by omega)⟩
  · have : liDo s a = liAdmit s a.key := by unfold liDo; rw [if_neg (by omega), if_pos e]
    rw [this, e]
    by_cases hk : a.key ∈ liKeys s
    · have h2 : liAdmit s a.key = (s, []) := if_pos hk
      rw [h2]
      exact ⟨h, ev_perm (R := liKeys s) (N := []) h.keys (List.Perm.refl _) (List.Perm.refl _) (fun x hx => (nomatch hx)) (by rw [if_neg (fun h => by have := h.2; simp [hk] at this)]; rfl) (by omega) (fun h => by omega)⟩
    · obtain ⟨h1, R, h2, h3⟩ := h.admit hk
      exact ⟨h1, ev_perm (R := R) (N := [a.key]) h.keys h2 h3 (fun x hx => by rw [List.mem_singleton.1 hx]; exact hk) (by rw [if_pos ⟨rfl, by simp [hk]⟩]; rfl) (by omega) (fun h => by omega)⟩
  · have : liDo s a = (liDrop s a.key, []) := by unfold liDo; rw [if_neg (by omega), if_neg (by omega), if_pos e]
    rw [this, e]
    obtain ⟨h1, h2⟩ := h.drop a.key
    refine ⟨h1, ?_⟩
    simp only
    rw [h2]
    refine ⟨fun x hx => (nomatch hx), fun x hx => ?_, rfl, ?_, fun h => by omega⟩
    · by_cases hx2 : x = a.key
      · exact .inr (.inr ⟨rfl, hx2⟩)
      · exact .inr (.inl (mem_without.2 ⟨hx, hx2⟩))
    · rw [if_neg (fun h => by have := h.1; omega)]
      by_cases hk : a.key ∈ liKeys s
      · have h3 := without_mem_len h.keys hk
        have h4 : 0 < (liKeys s).length := List.length_pos_iff.2 (List.ne_nil_of_mem hk)
        rw [if_pos ⟨rfl, by simp [hk]⟩, h3, List.length_nil]
        omega
      · rw [if_neg (fun h => by have := h.2; simp [hk] at this), without_same hk, List.length_nil]
        omega
  · have : liDo s a = liResize s (sizeOf' a) := by unfold liDo; rw [if_neg (by omega), if_neg (by omega), if_neg (by omega)]
    rw [this, e]
    obtain ⟨h1, R, h2, h3, h4⟩ := h.resize (c := sizeOf' a) (by omega) (by omega)
    rw [hcs] at h4
    exact ⟨h1, ev_perm (R := R) (N := []) h.keys h2 h3 (fun x hx => (nomatch hx)) (by rw [if_neg (fun h => by have := h.1; omega)]; rfl) (by omega) (fun _ => h4)⟩
def liStep (s : LS) (a : Deed) : LS := (liDo s a).1
def liRun (c : Int) (l : List Deed) : LS := l.foldl liStep ⟨1 + c.tmod 12, [], []⟩
theorem liRun_snoc (c : Int) (l : List Deed) (a : Deed) : liRun c (l ++ [a]) = (liDo (liRun c l) a).1 := by simp [liRun, liStep]
theorem liOk_new {C : Int} (h0 : 1 ≤ C) (h1 : C ≤ 14) : LiOk ⟨C, [], []⟩ := by
  have := roomOf_le h0
  exact ⟨h0, h1, ⟨by simp, by simp, fun x hx => (nomatch hx), fun x hx => (nomatch hx)⟩, by show ((0 : Nat) : Int) ≤ roomOf C; omega, by show ((0 : Nat) : Int) + ((0 : Nat) : Int) ≤ C; omega, by show ((0 : Nat) : Int) ≤ C; omega, fun x hx => (nomatch hx)⟩
theorem liRun_ok {c : Int} (k1 : 1 ≤ 1 + c.tmod 12) (k2 : 1 + c.tmod 12 ≤ 12) (l : List Deed) (hf : ∀ a ∈ l, a.Fits) : LiOk (liRun c l) := by
  have gen : ∀ (l : List Deed) (s : LS), LiOk s → (∀ a ∈ l, a.Fits) → LiOk (l.foldl liStep s) := by
    intro l
    induction l with
    | nil => intro s h _; exact h
    | cons a l ih =>
      intro s h hf
      exact ih _ (h.act (hf a List.mem_cons_self)).1 fun b hb => hf b (List.mem_cons_of_mem _ hb)
  exact gen l _ (liOk_new k1 (by omega)) hf
end Go.Al.K12
end
section
set_option linter.unusedVariables false
set_option linter.unusedSimpArgs false
set_option maxRecDepth 20000
set_option maxHeartbeats 3200000
-- axs, axw, aresL, afill, Value.oneCell', Nat.reduceLT, Nat.reduceLeDiff, Nat.reduceEqDiff, Nat.reduceAdd, Nat.reduceMul, Nat.reduceSub, Nat.reduceBEq, Int.reduceLE, Int.reduceLT, Int.reduceToNat, Int.reduceNeg, Int.reduceEq, axt, ftK, ft3, AAll, ftQ, SL, tys: SL
-- NOIDS: noIdsE_IT
-- LENS: IT_len
namespace Go.Al.K12
open Go.Proofs
theorem seef9880 {p : Prop} (h : p := by repeat' (first | exact True.intro | exact Sees.sc | exact Sees.none | ((with_reducible refine Sees.same ?_) <;> simp [noIds, noIdsL, noIdsE, noIdsE_U, noIdsE_UU, noIdsE_IT] <;> fail) | (refine Live.sees ?_ ?_ <;> first | assumption | (simp [noIdsE_U, noIdsE_UU, noIdsE_IT] <;> fail)) | (refine Sees.obj ?_ ?_ ?_ <;> first | exact ⟨_, _, by assumption, rfl⟩ | (simp [U_len, UU_len, IT_len] <;> fail) | (simp [noIdsE_U, noIdsE_UU, noIdsE_IT] <;> fail) | (simp [U, UU, upd] <;> fail) | (simp [U, UU, upd, neS, *] <;> fail)) | (refine Sees.of_seen 3 ?_ <;> simp [seen, upd, noIdsE, noIdsL, noIds, U, UU, Nat.add_assoc] <;> fail) | refine Sees.agg ?_ | refine And.intro ?_ ?_ | simp only [SeesL])) : p := h
theorem seef9881 {p : Prop} (h : p := by repeat' (first | exact True.intro | exact Sees.sc | exact Sees.none | ((with_reducible refine Sees.same ?_) <;> simp [noIds, noIdsL, noIdsE, noIdsE_U, noIdsE_UU, noIdsE_IT] <;> fail) | (refine Live.sees ?_ ?_ <;> first | assumption | (simp [noIdsE_U, noIdsE_UU, noIdsE_IT] <;> fail)) | (refine Sees.obj ?_ ?_ ?_ <;> first | exact ⟨_, _, by assumption, rfl⟩ | (simp [U_len, UU_len, IT_len] <;> fail) | (simp [noIdsE_U, noIdsE_UU, noIdsE_IT] <;> fail) | (simp [U, UU, upd, neS] <;> fail) | (simp [U, UU, upd, neS, *] <;> fail)) | refine Sees.agg ?_ | refine Sees.tup ?_ | refine And.intro ?_ ?_ | simp only [SeesL])) : p := h
theorem rLTouch (s : LS) (k : Int) (h : LiOk s) : PCalls Try.prog 58 [SL s, .sc (.int .u64 k)] (SL (liTouch s k)) := by
  obtain ⟨hl, hq⟩ := h.bounds
  have c0 := h.c0
  have c1 := h.c1
  have hb := h.b
  clear h
  obtain ⟨C, S, Q⟩ := s
  simp only at c0 c1 hl hq hb
  have hix := idxK_lt S k
  have hrl := remK_len S k
  have wl := without_len Q k
  have c2 := rPlace S k (by omega)
  have c3 := rStack ⟨C, S, Q⟩ k 2 (by show S.length ≤ _; omega)
  have c3 : PCalls Try.prog 79 [SL ⟨C, S, Q⟩, .sc (.int .u64 k), .sc (.int .i64 2)] (SL ⟨C, (k, 2) :: remK S k, Q⟩) := c3
  have c4 := rHas Q k (by omega)
  have c5 := rPrune ⟨C, (k, 2) :: remK S k, Q⟩ (by show (_ :: remK S k).length ≤ _; rw [List.length_cons]; omega)
  have c5 : PCalls Try.prog 78 [SL ⟨C, (k, 2) :: remK S k, Q⟩] (SL ⟨C, pruned ((k, 2) :: remK S k), Q⟩) := c5
  have c6 := rWithout Q k (by omega)
  have hcl := coolL_facts ⟨C, (k, 2) :: remK S k, without Q k⟩ c0
  have c9 := rStack ⟨C, S, Q⟩ k 1 (by show S.length ≤ _; omega)
  have c9 : PCalls Try.prog 79 [SL ⟨C, S, Q⟩, .sc (.int .u64 k), .sc (.int .i64 1)] (SL ⟨C, (k, 1) :: remK S k, Q⟩) := c9
  have c10 := rLast ⟨C, (k, 1) :: remK S k, Q⟩ k (by show Q.length ≤ _; omega)
  have c10 : PCalls Try.prog 80 [SL ⟨C, (k, 1) :: remK S k, Q⟩, .sc (.int .u64 k)] (SL ⟨C, (k, 1) :: remK S k, lastQ Q k⟩) := c10
  have c11 := rPrune ⟨C, (k, 1) :: remK S k, lastQ Q k⟩ (by show (_ :: remK S k).length ≤ _; rw [List.length_cons]; omega)
  have c11 : PCalls Try.prog 78 [SL ⟨C, (k, 1) :: remK S k, lastQ Q k⟩] (SL ⟨C, pruned ((k, 1) :: remK S k), lastQ Q k⟩) := c11
  by_cases hi : idxK S k ≥ 0
  · obtain ⟨i, hii⟩ : ∃ i : Nat, idxK S k = i := ⟨(idxK S k).toNat, by omega⟩
    have hil : i < S.length := by omega
    obtain ⟨x, hx⟩ : ∃ x, S[i]? = some x := ⟨_, List.getElem?_eq_getElem hil⟩
    have hd : S.getD (idxK S k).toNat (0, 0) = x := by rw [hii, show ((i : Nat) : Int).toNat = i from rfl, List.getD_eq_getElem?_getD, hx]; rfl
    have hg := IT_get hx
    have i0 : (0 : Int) ≤ (i : Int) := by omega
    have i2 : (i : Int) ≥ 0 := by omega
    have i3 : ¬ (i : Int) < 0 := by omega
    have i1 : (i : Int) < S.length := by omega
    by_cases hk : x.2 = 2
    · have hT : liTouch ⟨C, S, Q⟩ k = ⟨C, pruned ((k, 2) :: remK S k), Q⟩ := if_pos ⟨hi, by show (S.getD (idxK S k).toNat (0, 0)).2 = 2; rw [hd]; exact hk⟩
      rw [hT]
      rw [hii] at c2
      refine PCalls.intro2 Try.func58 rfl rfl Try.ntmps58 Try.results58 (by simp) fun n => ?_; simp (maxSteps := 400000) (dsimp := false) only [axs, axw, aresL, afill, Value.oneCell', Nat.reduceLT, Nat.reduceLeDiff, Nat.reduceEqDiff, Nat.reduceAdd, Nat.reduceMul, Nat.reduceSub, Nat.reduceBEq, Int.reduceLE, Int.reduceLT, Int.reduceToNat, Int.reduceNeg, Int.reduceEq, axt, ftK, ft3, AAll, ftQ, SL, tys]
      refine ACallK.strict rfl (c2) (by simp only [SeesL, i0, i1, i2, hg, IT_len, hk, axs, axt, AS.ev, AS.put, upd, inHeap, Nat.reduceLT, Nat.reduceEqDiff, Nat.reduceAdd, Nat.reduceBEq, SL]; exact seef9880) ?_; simp (maxSteps := 400000) (dsimp := false) only [i0, i1, i2, hg, IT_len, hk, axs, axw, aresL, afill, Value.oneCell', Nat.reduceLT, Nat.reduceLeDiff, Nat.reduceEqDiff, Nat.reduceAdd, Nat.reduceMul, Nat.reduceSub, Nat.reduceBEq, Int.reduceLE, Int.reduceLT, Int.reduceToNat, Int.reduceNeg, Int.reduceEq, axt, ftK, ft3, AAll, ftQ, SL, tys]
      refine ACallK.strict rfl (c3) (by simp only [SeesL, axs, axt, AS.ev, AS.put, upd, inHeap, Nat.reduceLT, Nat.reduceEqDiff, Nat.reduceAdd, Nat.reduceBEq, SL]; exact seef9880) ?_; simp (maxSteps := 400000) (dsimp := false) only [axs, axw, aresL, afill, Value.oneCell', Nat.reduceLT, Nat.reduceLeDiff, Nat.reduceEqDiff, Nat.reduceAdd, Nat.reduceMul, Nat.reduceSub, Nat.reduceBEq, Int.reduceLE, Int.reduceLT, Int.reduceToNat, Int.reduceNeg, Int.reduceEq, axt, ftK, ft3, AAll, ftQ, SL, tys]
      refine ACallK.strict rfl (c5) (by simp only [SeesL, axs, axt, AS.ev, AS.put, upd, inHeap, Nat.reduceLT, Nat.reduceEqDiff, Nat.reduceAdd, Nat.reduceBEq, SL]; exact seef9880) ?_; simp (maxSteps := 400000) (dsimp := false) only [axs, axw, aresL, afill, Value.oneCell', Nat.reduceLT, Nat.reduceLeDiff, Nat.reduceEqDiff, Nat.reduceAdd, Nat.reduceMul, Nat.reduceSub, Nat.reduceBEq, Int.reduceLE, Int.reduceLT, Int.reduceToNat, Int.reduceNeg, Int.reduceEq, axt, ftK, ft3, AAll, ftQ, SL, tys]
      refine ⟨_, rfl, ?_⟩; simp (maxSteps := 400000) (dsimp := false) only [SeesL, axs, axw, aresL, afill, Value.oneCell', Nat.reduceLT, Nat.reduceLeDiff, Nat.reduceEqDiff, Nat.reduceAdd, Nat.reduceMul, Nat.reduceSub, Nat.reduceBEq, Int.reduceLE, Int.reduceLT, Int.reduceToNat, Int.reduceNeg, Int.reduceEq, axt, ftK, ft3, AAll, ftQ, SL, tys] <;> exact seef9881
    · have hn : ¬ hotAt ⟨C, S, Q⟩ k := fun h => hk (by have := h.2; rw [show (LS.mk C S Q).S = S from rfl, hd] at this; exact this)
      by_cases hQ : k ∈ Q
      · have hB : LiB ((k, 2) :: remK S k) (without Q k) := hb.put k (.inr rfl) (without_nodup k hb.qn) (fun x hx => by rw [mem_without]; exact ⟨fun h => h.1, fun h => ⟨h, hx⟩⟩) ⟨fun hq => absurd rfl (mem_without.1 hq).2, fun e => by omega⟩
        have c7 := rCool ⟨C, (k, 2) :: remK S k, without Q k⟩ hB c0 (by show C ≤ _; omega) (by show (_ :: remK S k).length ≤ _; rw [List.length_cons]; omega) (by show (without Q k).length ≤ _; omega)
        have c8 := rPrune (coolL ⟨C, (k, 2) :: remK S k, without Q k⟩) (by have h := hcl.2.1; rw [show (LS.mk C ((k, 2) :: remK S k) (without Q k)).S = (k, 2) :: remK S k from rfl, List.length_cons] at h; omega)
        have hT : liTouch ⟨C, S, Q⟩ k = pruneL (coolL ⟨C, (k, 2) :: remK S k, without Q k⟩) := by
          unfold liTouch
          rw [if_neg hn, if_neg (fun h => h hQ), if_pos hi]
        rw [hT]
        rw [hii] at c2
        clear hcl
        generalize coolL ⟨C, (k, 2) :: remK S k, without Q k⟩ = W at *
        refine PCalls.intro2 Try.func58 rfl rfl Try.ntmps58 Try.results58 (by simp) fun n => ?_; simp (maxSteps := 400000) (dsimp := false) only [axs, axw, aresL, afill, Value.oneCell', Nat.reduceLT, Nat.reduceLeDiff, Nat.reduceEqDiff, Nat.reduceAdd, Nat.reduceMul, Nat.reduceSub, Nat.reduceBEq, Int.reduceLE, Int.reduceLT, Int.reduceToNat, Int.reduceNeg, Int.reduceEq, axt, ftK, ft3, AAll, ftQ, SL, tys]
        refine ACallK.strict rfl (c2) (by simp only [SeesL, i0, i1, i2, hg, IT_len, hk, axs, axt, AS.ev, AS.put, upd, inHeap, Nat.reduceLT, Nat.reduceEqDiff, Nat.reduceAdd, Nat.reduceBEq, SL]; exact seef9880) ?_; simp (maxSteps := 400000) (dsimp := false) only [i0, i1, i2, hg, IT_len, hk, axs, axw, aresL, afill, Value.oneCell', Nat.reduceLT, Nat.reduceLeDiff, Nat.reduceEqDiff, Nat.reduceAdd, Nat.reduceMul, Nat.reduceSub, Nat.reduceBEq, Int.reduceLE, Int.reduceLT, Int.reduceToNat, Int.reduceNeg, Int.reduceEq, axt, ftK, ft3, AAll, ftQ, SL, tys]
        refine ACallK.strict rfl (c4) (by simp only [SeesL, hQ, i3, axs, axt, AS.ev, AS.put, upd, inHeap, Nat.reduceLT, Nat.reduceEqDiff, Nat.reduceAdd, Nat.reduceBEq, SL]; exact seef9880) ?_; simp (maxSteps := 400000) (dsimp := false) only [hQ, i3, axs, axw, aresL, afill, Value.oneCell', Nat.reduceLT, Nat.reduceLeDiff, Nat.reduceEqDiff, Nat.reduceAdd, Nat.reduceMul, Nat.reduceSub, Nat.reduceBEq, Int.reduceLE, Int.reduceLT, Int.reduceToNat, Int.reduceNeg, Int.reduceEq, axt, ftK, ft3, AAll, ftQ, SL, tys]
        refine ACallK.strict rfl (c3) (by simp only [SeesL, axs, axt, AS.ev, AS.put, upd, inHeap, Nat.reduceLT, Nat.reduceEqDiff, Nat.reduceAdd, Nat.reduceBEq, SL]; exact seef9880) ?_; simp (maxSteps := 400000) (dsimp := false) only [axs, axw, aresL, afill, Value.oneCell', Nat.reduceLT, Nat.reduceLeDiff, Nat.reduceEqDiff, Nat.reduceAdd, Nat.reduceMul, Nat.reduceSub, Nat.reduceBEq, Int.reduceLE, Int.reduceLT, Int.reduceToNat, Int.reduceNeg, Int.reduceEq, axt, ftK, ft3, AAll, ftQ, SL, tys]
        refine ACallK.strict rfl (c6) (by simp only [SeesL, axs, axt, AS.ev, AS.put, upd, inHeap, Nat.reduceLT, Nat.reduceEqDiff, Nat.reduceAdd, Nat.reduceBEq, SL]; exact seef9880) ?_; simp (maxSteps := 400000) (dsimp := false) only [axs, axw, aresL, afill, Value.oneCell', Nat.reduceLT, Nat.reduceLeDiff, Nat.reduceEqDiff, Nat.reduceAdd, Nat.reduceMul, Nat.reduceSub, Nat.reduceBEq, Int.reduceLE, Int.reduceLT, Int.reduceToNat, Int.reduceNeg, Int.reduceEq, axt, ftK, ft3, AAll, ftQ, SL, tys]
        refine ACallK.strict rfl (c7) (by simp only [SeesL, axs, axt, AS.ev, AS.put, upd, inHeap, Nat.reduceLT, Nat.reduceEqDiff, Nat.reduceAdd, Nat.reduceBEq, SL]; exact seef9880) ?_; simp (maxSteps := 400000) (dsimp := false) only [axs, axw, aresL, afill, Value.oneCell', Nat.reduceLT, Nat.reduceLeDiff, Nat.reduceEqDiff, Nat.reduceAdd, Nat.reduceMul, Nat.reduceSub, Nat.reduceBEq, Int.reduceLE, Int.reduceLT, Int.reduceToNat, Int.reduceNeg, Int.reduceEq, axt, ftK, ft3, AAll, ftQ, SL, tys]
        refine ACallK.strict rfl (c8) (by simp only [SeesL, axs, axt, AS.ev, AS.put, upd, inHeap, Nat.reduceLT, Nat.reduceEqDiff, Nat.reduceAdd, Nat.reduceBEq, SL]; exact seef9880) ?_; simp (maxSteps := 400000) (dsimp := false) only [axs, axw, aresL, afill, Value.oneCell', Nat.reduceLT, Nat.reduceLeDiff, Nat.reduceEqDiff, Nat.reduceAdd, Nat.reduceMul, Nat.reduceSub, Nat.reduceBEq, Int.reduceLE, Int.reduceLT, Int.reduceToNat, Int.reduceNeg, Int.reduceEq, axt, ftK, ft3, AAll, ftQ, SL, tys]
        refine ⟨_, rfl, ?_⟩; simp (maxSteps := 400000) (dsimp := false) only [SeesL, axs, axw, aresL, afill, Value.oneCell', Nat.reduceLT, Nat.reduceLeDiff, Nat.reduceEqDiff, Nat.reduceAdd, Nat.reduceMul, Nat.reduceSub, Nat.reduceBEq, Int.reduceLE, Int.reduceLT, Int.reduceToNat, Int.reduceNeg, Int.reduceEq, axt, ftK, ft3, AAll, ftQ, SL, tys] <;> exact seef9881
      · have hT : liTouch ⟨C, S, Q⟩ k = ⟨C, S, Q⟩ := by
          unfold liTouch
          rw [if_neg hn, if_pos hQ]
        rw [hT]
        rw [hii] at c2
        refine PCalls.intro2 Try.func58 rfl rfl Try.ntmps58 Try.results58 (by simp) fun n => ?_; simp (maxSteps := 400000) (dsimp := false) only [axs, axw, aresL, afill, Value.oneCell', Nat.reduceLT, Nat.reduceLeDiff, Nat.reduceEqDiff, Nat.reduceAdd, Nat.reduceMul, Nat.reduceSub, Nat.reduceBEq, Int.reduceLE, Int.reduceLT, Int.reduceToNat, Int.reduceNeg, Int.reduceEq, axt, ftK, ft3, AAll, ftQ, SL, tys]
        refine ACallK.strict rfl (c2) (by simp only [SeesL, i0, i1, i2, hg, IT_len, hk, axs, axt, AS.ev, AS.put, upd, inHeap, Nat.reduceLT, Nat.reduceEqDiff, Nat.reduceAdd, Nat.reduceBEq, SL]; exact seef9880) ?_; simp (maxSteps := 400000) (dsimp := false) only [i0, i1, i2, hg, IT_len, hk, axs, axw, aresL, afill, Value.oneCell', Nat.reduceLT, Nat.reduceLeDiff, Nat.reduceEqDiff, Nat.reduceAdd, Nat.reduceMul, Nat.reduceSub, Nat.reduceBEq, Int.reduceLE, Int.reduceLT, Int.reduceToNat, Int.reduceNeg, Int.reduceEq, axt, ftK, ft3, AAll, ftQ, SL, tys]
        refine ACallK.strict rfl (c4) (by simp only [SeesL, hQ, axs, axt, AS.ev, AS.put, upd, inHeap, Nat.reduceLT, Nat.reduceEqDiff, Nat.reduceAdd, Nat.reduceBEq, SL]; exact seef9880) ?_; simp (maxSteps := 400000) (dsimp := false) only [hQ, axs, axw, aresL, afill, Value.oneCell', Nat.reduceLT, Nat.reduceLeDiff, Nat.reduceEqDiff, Nat.reduceAdd, Nat.reduceMul, Nat.reduceSub, Nat.reduceBEq, Int.reduceLE, Int.reduceLT, Int.reduceToNat, Int.reduceNeg, Int.reduceEq, axt, ftK, ft3, AAll, ftQ, SL, tys]
        refine ⟨_, rfl, ?_⟩; simp (maxSteps := 400000) (dsimp := false) only [SeesL, axs, axw, aresL, afill, Value.oneCell', Nat.reduceLT, Nat.reduceLeDiff, Nat.reduceEqDiff, Nat.reduceAdd, Nat.reduceMul, Nat.reduceSub, Nat.reduceBEq, Int.reduceLE, Int.reduceLT, Int.reduceToNat, Int.reduceNeg, Int.reduceEq, axt, ftK, ft3, AAll, ftQ, SL, tys] <;> exact seef9881
  · have hn : ¬ hotAt ⟨C, S, Q⟩ k := fun h => hi h.1
    have hii : idxK S k = -1 := by omega
    have i2 : ¬ (-1 : Int) ≥ 0 := by omega
    have i3 : (-1 : Int) < 0 := by omega
    by_cases hQ : k ∈ Q
    · have hT : liTouch ⟨C, S, Q⟩ k = ⟨C, pruned ((k, 1) :: remK S k), lastQ Q k⟩ := by
        unfold liTouch
        rw [if_neg hn, if_neg (fun h => h hQ), if_neg hi]
        rfl
      rw [hT]
      rw [hii] at c2
      refine PCalls.intro2 Try.func58 rfl rfl Try.ntmps58 Try.results58 (by simp) fun n => ?_; simp (maxSteps := 400000) (dsimp := false) only [axs, axw, aresL, afill, Value.oneCell', Nat.reduceLT, Nat.reduceLeDiff, Nat.reduceEqDiff, Nat.reduceAdd, Nat.reduceMul, Nat.reduceSub, Nat.reduceBEq, Int.reduceLE, Int.reduceLT, Int.reduceToNat, Int.reduceNeg, Int.reduceEq, axt, ftK, ft3, AAll, ftQ, SL, tys]
      refine ACallK.strict rfl (c2) (by simp only [SeesL, i2, axs, axt, AS.ev, AS.put, upd, inHeap, Nat.reduceLT, Nat.reduceEqDiff, Nat.reduceAdd, Nat.reduceBEq, SL]; exact seef9880) ?_; simp (maxSteps := 400000) (dsimp := false) only [i2, axs, axw, aresL, afill, Value.oneCell', Nat.reduceLT, Nat.reduceLeDiff, Nat.reduceEqDiff, Nat.reduceAdd, Nat.reduceMul, Nat.reduceSub, Nat.reduceBEq, Int.reduceLE, Int.reduceLT, Int.reduceToNat, Int.reduceNeg, Int.reduceEq, axt, ftK, ft3, AAll, ftQ, SL, tys]
      refine ACallK.strict rfl (c4) (by simp only [SeesL, hQ, i3, axs, axt, AS.ev, AS.put, upd, inHeap, Nat.reduceLT, Nat.reduceEqDiff, Nat.reduceAdd, Nat.reduceBEq, SL]; exact seef9880) ?_; simp (maxSteps := 400000) (dsimp := false) only [hQ, i3, axs, axw, aresL, afill, Value.oneCell', Nat.reduceLT, Nat.reduceLeDiff, Nat.reduceEqDiff, Nat.reduceAdd, Nat.reduceMul, Nat.reduceSub, Nat.reduceBEq, Int.reduceLE, Int.reduceLT, Int.reduceToNat, Int.reduceNeg, Int.reduceEq, axt, ftK, ft3, AAll, ftQ, SL, tys]
      refine ACallK.strict rfl (c9) (by simp only [SeesL, axs, axt, AS.ev, AS.put, upd, inHeap, Nat.reduceLT, Nat.reduceEqDiff, Nat.reduceAdd, Nat.reduceBEq, SL]; exact seef9880) ?_; simp (maxSteps := 400000) (dsimp := false) only [axs, axw, aresL, afill, Value.oneCell', Nat.reduceLT, Nat.reduceLeDiff, Nat.reduceEqDiff, Nat.reduceAdd, Nat.reduceMul, Nat.reduceSub, Nat.reduceBEq, Int.reduceLE, Int.reduceLT, Int.reduceToNat, Int.reduceNeg, Int.reduceEq, axt, ftK, ft3, AAll, ftQ, SL, tys]
      refine ACallK.strict rfl (c10) (by simp only [SeesL, axs, axt, AS.ev, AS.put, upd, inHeap, Nat.reduceLT, Nat.reduceEqDiff, Nat.reduceAdd, Nat.reduceBEq, SL]; exact seef9880) ?_; simp (maxSteps := 400000) (dsimp := false) only [axs, axw, aresL, afill, Value.oneCell', Nat.reduceLT, Nat.reduceLeDiff, Nat.reduceEqDiff, Nat.reduceAdd, Nat.reduceMul, Nat.reduceSub, Nat.reduceBEq, Int.reduceLE, Int.reduceLT, Int.reduceToNat, Int.reduceNeg, Int.reduceEq, axt, ftK, ft3, AAll, ftQ, SL, tys]
      refine ACallK.strict rfl (c11) (by simp only [SeesL, axs, axt, AS.ev, AS.put, upd, inHeap, Nat.reduceLT, Nat.reduceEqDiff, Nat.reduceAdd, Nat.reduceBEq, SL]; exact seef9880) ?_; simp (maxSteps := 400000) (dsimp := false) only [axs, axw, aresL, afill, Value.oneCell', Nat.reduceLT, Nat.reduceLeDiff, Nat.reduceEqDiff, Nat.reduceAdd, Nat.reduceMul, Nat.reduceSub, Nat.reduceBEq, Int.reduceLE, Int.reduceLT, Int.reduceToNat, Int.reduceNeg, Int.reduceEq, axt, ftK, ft3, AAll, ftQ, SL, tys]
      refine ⟨_, rfl, ?_⟩; simp (maxSteps := 400000) (dsimp := false) only [SeesL, axs, axw, aresL, afill, Value.oneCell', Nat.reduceLT, Nat.reduceLeDiff, Nat.reduceEqDiff, Nat.reduceAdd, Nat.reduceMul, Nat.reduceSub, Nat.reduceBEq, Int.reduceLE, Int.reduceLT, Int.reduceToNat, Int.reduceNeg, Int.reduceEq, axt, ftK, ft3, AAll, ftQ, SL, tys] <;> exact seef9881
    · have hT : liTouch ⟨C, S, Q⟩ k = ⟨C, S, Q⟩ := by
        unfold liTouch
        rw [if_neg hn, if_pos hQ]
      rw [hT]
      rw [hii] at c2
      refine PCalls.intro2 Try.func58 rfl rfl Try.ntmps58 Try.results58 (by simp) fun n => ?_; simp (maxSteps := 400000) (dsimp := false) only [axs, axw, aresL, afill, Value.oneCell', Nat.reduceLT, Nat.reduceLeDiff, Nat.reduceEqDiff, Nat.reduceAdd, Nat.reduceMul, Nat.reduceSub, Nat.reduceBEq, Int.reduceLE, Int.reduceLT, Int.reduceToNat, Int.reduceNeg, Int.reduceEq, axt, ftK, ft3, AAll, ftQ, SL, tys]
      refine ACallK.strict rfl (c2) (by simp only [SeesL, i2, axs, axt, AS.ev, AS.put, upd, inHeap, Nat.reduceLT, Nat.reduceEqDiff, Nat.reduceAdd, Nat.reduceBEq, SL]; exact seef9880) ?_; simp (maxSteps := 400000) (dsimp := false) only [i2, axs, axw, aresL, afill, Value.oneCell', Nat.reduceLT, Nat.reduceLeDiff, Nat.reduceEqDiff, Nat.reduceAdd, Nat.reduceMul, Nat.reduceSub, Nat.reduceBEq, Int.reduceLE, Int.reduceLT, Int.reduceToNat, Int.reduceNeg, Int.reduceEq, axt, ftK, ft3, AAll, ftQ, SL, tys]
      refine ACallK.strict rfl (c4) (by simp only [SeesL, hQ, axs, axt, AS.ev, AS.put, upd, inHeap, Nat.reduceLT, Nat.reduceEqDiff, Nat.reduceAdd, Nat.reduceBEq, SL]; exact seef9880) ?_; simp (maxSteps := 400000) (dsimp := false) only [hQ, axs, axw, aresL, afill, Value.oneCell', Nat.reduceLT, Nat.reduceLeDiff, Nat.reduceEqDiff, Nat.reduceAdd, Nat.reduceMul, Nat.reduceSub, Nat.reduceBEq, Int.reduceLE, Int.reduceLT, Int.reduceToNat, Int.reduceNeg, Int.reduceEq, axt, ftK, ft3, AAll, ftQ, SL, tys]
      refine ⟨_, rfl, ?_⟩; simp (maxSteps := 400000) (dsimp := false) only [SeesL, axs, axw, aresL, afill, Value.oneCell', Nat.reduceLT, Nat.reduceLeDiff, Nat.reduceEqDiff, Nat.reduceAdd, Nat.reduceMul, Nat.reduceSub, Nat.reduceBEq, Int.reduceLE, Int.reduceLT, Int.reduceToNat, Int.reduceNeg, Int.reduceEq, axt, ftK, ft3, AAll, ftQ, SL, tys] <;> exact seef9881
theorem rLDrop (s : LS) (k : Int) (hl : s.S.length ≤ 400) (hq : s.Q.length ≤ 400) : PCalls Try.prog 64 [SL s, .sc (.int .u64 k)] (SL (liDrop s k)) := by
  obtain ⟨C, S, Q⟩ := s
  simp only at hl hq
  have hix := idxK_lt S k
  have hrl := remK_len S k
  have c2 := rPlace S k (by omega)
  have c6 := rWithout Q k (by omega)
  have c5 := rPrune ⟨C, remK S k, without Q k⟩ (by show (remK S k).length ≤ _; omega)
  have c5 : PCalls Try.prog 78 [SL ⟨C, remK S k, without Q k⟩] (SL ⟨C, pruned (remK S k), without Q k⟩) := c5
  show PCalls _ _ _ (SL ⟨C, pruned (remK S k), without Q k⟩)
  by_cases hi : idxK S k ≥ 0
  · obtain ⟨i, hii⟩ : ∃ i : Nat, idxK S k = i := ⟨(idxK S k).toNat, by omega⟩
    have hr : remK S k = S.eraseIdx i := by
      unfold remK takeP
      rw [hii, if_neg (by omega)]; rfl
    have cc := rCut S i (by omega) (by omega)
    rw [hii] at c2 hi
    rw [← hr] at cc
    refine PCalls.intro2 Try.func64 rfl rfl Try.ntmps64 Try.results64 (by simp) fun n => ?_; simp (maxSteps := 400000) (dsimp := false) only [axs, axw, aresL, afill, Value.oneCell', Nat.reduceLT, Nat.reduceLeDiff, Nat.reduceEqDiff, Nat.reduceAdd, Nat.reduceMul, Nat.reduceSub, Nat.reduceBEq, Int.reduceLE, Int.reduceLT, Int.reduceToNat, Int.reduceNeg, Int.reduceEq, axt, ftK, ft3, AAll, ftQ, SL, tys]
    refine ACallK.strict rfl (c2) (by simp only [SeesL, hi, eq_true hi, axs, axt, AS.ev, AS.put, upd, inHeap, Nat.reduceLT, Nat.reduceEqDiff, Nat.reduceAdd, Nat.reduceBEq, SL]; exact seef9880) ?_; simp (maxSteps := 400000) (dsimp := false) only [hi, eq_true hi, axs, axw, aresL, afill, Value.oneCell', Nat.reduceLT, Nat.reduceLeDiff, Nat.reduceEqDiff, Nat.reduceAdd, Nat.reduceMul, Nat.reduceSub, Nat.reduceBEq, Int.reduceLE, Int.reduceLT, Int.reduceToNat, Int.reduceNeg, Int.reduceEq, axt, ftK, ft3, AAll, ftQ, SL, tys]
    refine ACallK.strict rfl (cc) (by simp only [SeesL, axs, axt, AS.ev, AS.put, upd, inHeap, Nat.reduceLT, Nat.reduceEqDiff, Nat.reduceAdd, Nat.reduceBEq, SL]; exact seef9880) ?_; simp (maxSteps := 400000) (dsimp := false) only [axs, axw, aresL, afill, Value.oneCell', Nat.reduceLT, Nat.reduceLeDiff, Nat.reduceEqDiff, Nat.reduceAdd, Nat.reduceMul, Nat.reduceSub, Nat.reduceBEq, Int.reduceLE, Int.reduceLT, Int.reduceToNat, Int.reduceNeg, Int.reduceEq, axt, ftK, ft3, AAll, ftQ, SL, tys]
    refine ACallK.strict rfl (c6) (by simp only [SeesL, axs, axt, AS.ev, AS.put, upd, inHeap, Nat.reduceLT, Nat.reduceEqDiff, Nat.reduceAdd, Nat.reduceBEq, SL]; exact seef9880) ?_; simp (maxSteps := 400000) (dsimp := false) only [axs, axw, aresL, afill, Value.oneCell', Nat.reduceLT, Nat.reduceLeDiff, Nat.reduceEqDiff, Nat.reduceAdd, Nat.reduceMul, Nat.reduceSub, Nat.reduceBEq, Int.reduceLE, Int.reduceLT, Int.reduceToNat, Int.reduceNeg, Int.reduceEq, axt, ftK, ft3, AAll, ftQ, SL, tys]
    refine ACallK.strict rfl (c5) (by simp only [SeesL, axs, axt, AS.ev, AS.put, upd, inHeap, Nat.reduceLT, Nat.reduceEqDiff, Nat.reduceAdd, Nat.reduceBEq, SL]; exact seef9880) ?_; simp (maxSteps := 400000) (dsimp := false) only [axs, axw, aresL, afill, Value.oneCell', Nat.reduceLT, Nat.reduceLeDiff, Nat.reduceEqDiff, Nat.reduceAdd, Nat.reduceMul, Nat.reduceSub, Nat.reduceBEq, Int.reduceLE, Int.reduceLT, Int.reduceToNat, Int.reduceNeg, Int.reduceEq, axt, ftK, ft3, AAll, ftQ, SL, tys]
    refine ⟨_, rfl, ?_⟩; simp (maxSteps := 400000) (dsimp := false) only [SeesL, axs, axw, aresL, afill, Value.oneCell', Nat.reduceLT, Nat.reduceLeDiff, Nat.reduceEqDiff, Nat.reduceAdd, Nat.reduceMul, Nat.reduceSub, Nat.reduceBEq, Int.reduceLE, Int.reduceLT, Int.reduceToNat, Int.reduceNeg, Int.reduceEq, axt, ftK, ft3, AAll, ftQ, SL, tys] <;> exact seef9881
  · have hii : idxK S k = -1 := by omega
    have hr : remK S k = S := by
      unfold remK takeP
      rw [hii, if_pos (by omega)]
    rw [hii] at c2 hi
    rw [hr] at c5 ⊢
    refine PCalls.intro2 Try.func64 rfl rfl Try.ntmps64 Try.results64 (by simp) fun n => ?_; simp (maxSteps := 400000) (dsimp := false) only [axs, axw, aresL, afill, Value.oneCell', Nat.reduceLT, Nat.reduceLeDiff, Nat.reduceEqDiff, Nat.reduceAdd, Nat.reduceMul, Nat.reduceSub, Nat.reduceBEq, Int.reduceLE, Int.reduceLT, Int.reduceToNat, Int.reduceNeg, Int.reduceEq, axt, ftK, ft3, AAll, ftQ, SL, tys]
    refine ACallK.strict rfl (c2) (by simp only [SeesL, hi, eq_false hi, axs, axt, AS.ev, AS.put, upd, inHeap, Nat.reduceLT, Nat.reduceEqDiff, Nat.reduceAdd, Nat.reduceBEq, SL]; exact seef9880) ?_; simp (maxSteps := 400000) (dsimp := false) only [hi, eq_false hi, axs, axw, aresL, afill, Value.oneCell', Nat.reduceLT, Nat.reduceLeDiff, Nat.reduceEqDiff, Nat.reduceAdd, Nat.reduceMul, Nat.reduceSub, Nat.reduceBEq, Int.reduceLE, Int.reduceLT, Int.reduceToNat, Int.reduceNeg, Int.reduceEq, axt, ftK, ft3, AAll, ftQ, SL, tys]
    refine ACallK.strict rfl (c6) (by simp only [SeesL, axs, axt, AS.ev, AS.put, upd, inHeap, Nat.reduceLT, Nat.reduceEqDiff, Nat.reduceAdd, Nat.reduceBEq, SL]; exact seef9880) ?_; simp (maxSteps := 400000) (dsimp := false) only [axs, axw, aresL, afill, Value.oneCell', Nat.reduceLT, Nat.reduceLeDiff, Nat.reduceEqDiff, Nat.reduceAdd, Nat.reduceMul, Nat.reduceSub, Nat.reduceBEq, Int.reduceLE, Int.reduceLT, Int.reduceToNat, Int.reduceNeg, Int.reduceEq, axt, ftK, ft3, AAll, ftQ, SL, tys]
    refine ACallK.strict rfl (c5) (by simp only [SeesL, axs, axt, AS.ev, AS.put, upd, inHeap, Nat.reduceLT, Nat.reduceEqDiff, Nat.reduceAdd, Nat.reduceBEq, SL]; exact seef9880) ?_; simp (maxSteps := 400000) (dsimp := false) only [axs, axw, aresL, afill, Value.oneCell', Nat.reduceLT, Nat.reduceLeDiff, Nat.reduceEqDiff, Nat.reduceAdd, Nat.reduceMul, Nat.reduceSub, Nat.reduceBEq, Int.reduceLE, Int.reduceLT, Int.reduceToNat, Int.reduceNeg, Int.reduceEq, axt, ftK, ft3, AAll, ftQ, SL, tys]
    refine ⟨_, rfl, ?_⟩; simp (maxSteps := 400000) (dsimp := false) only [SeesL, axs, axw, aresL, afill, Value.oneCell', Nat.reduceLT, Nat.reduceLeDiff, Nat.reduceEqDiff, Nat.reduceAdd, Nat.reduceMul, Nat.reduceSub, Nat.reduceBEq, Int.reduceLE, Int.reduceLT, Int.reduceToNat, Int.reduceNeg, Int.reduceEq, axt, ftK, ft3, AAll, ftQ, SL, tys] <;> exact seef9881
end Go.Al.K12
end
section
set_option linter.unusedVariables false
set_option linter.unusedSimpArgs false
set_option maxRecDepth 20000
set_option maxHeartbeats 3200000
-- axs, axw, aresL, afill, Value.oneCell', Nat.reduceLT, Nat.reduceLeDiff, Nat.reduceEqDiff, Nat.reduceAdd, Nat.reduceMul, Nat.reduceSub, Nat.reduceBEq, Int.reduceLE, Int.reduceLT, Int.reduceToNat, Int.reduceNeg, Int.reduceEq, axt, ftK, ft3, AAll, ftQ, SL, tys: SL
-- NOIDS: noIdsE_IT
-- LENS: IT_len
namespace Go.Al.K12
open Go.Proofs
theorem see8e5f0 {p : Prop} (h : p := by repeat' (first | exact True.intro | exact Sees.sc | exact Sees.none | ((with_reducible refine Sees.same ?_) <;> simp [noIds, noIdsL, noIdsE, noIdsE_U, noIdsE_UU, noIdsE_IT] <;> fail) | (refine Live.sees ?_ ?_ <;> first | assumption | (simp [noIdsE_U, noIdsE_UU, noIdsE_IT] <;> fail)) | (refine Sees.obj ?_ ?_ ?_ <;> first | exact ⟨_, _, by assumption, rfl⟩ | (simp [U_len, UU_len, IT_len] <;> fail) | (simp [noIdsE_U, noIdsE_UU, noIdsE_IT] <;> fail) | (simp [U, UU, upd] <;> fail) | (simp [U, UU, upd, neS, *] <;> fail)) | (refine Sees.of_seen 3 ?_ <;> simp [seen, upd, noIdsE, noIdsL, noIds, U, UU, Nat.add_assoc] <;> fail) | refine Sees.agg ?_ | refine And.intro ?_ ?_ | simp only [SeesL])) : p := h
theorem see8e5f1 {p : Prop} (h : p := by repeat' (first | exact True.intro | exact Sees.sc | exact Sees.none | ((with_reducible refine Sees.same ?_) <;> simp [noIds, noIdsL, noIdsE, noIdsE_U, noIdsE_UU, noIdsE_IT] <;> fail) | (refine Live.sees ?_ ?_ <;> first | assumption | (simp [noIdsE_U, noIdsE_UU, noIdsE_IT] <;> fail)) | (refine Sees.obj ?_ ?_ ?_ <;> first | exact ⟨_, _, by assumption, rfl⟩ | (simp [U_len, UU_len, IT_len] <;> fail) | (simp [noIdsE_U, noIdsE_UU, noIdsE_IT] <;> fail) | (simp [U, UU, upd, neS] <;> fail) | (simp [U, UU, upd, neS, *] <;> fail)) | refine Sees.agg ?_ | refine Sees.tup ?_ | refine And.intro ?_ ?_ | simp only [SeesL])) : p := h
theorem rLAdmit12 (s : LS) (k : Int) (ho : LiOk s) : PCalls Try.prog 86 [SL s, .sc (.int .u64 k)] (.tup [SL (liAdmit s k).1, .lst 1 (U (liAdmit s k).2)]) := by
  obtain ⟨hl, hq⟩ := ho.bounds
  have c0 := ho.c0
  have c1 := ho.c1
  have hm := ho.hr
  have hr0 := roomOf_le c0
  obtain ⟨p1, p2, p3, p4⟩ := shrinkL_ok (z := s.C - 1) ho.b (by omega)
  obtain ⟨f1, f2, f3, f4, f5⟩ := shrunk_facts (s.C - 1) s.Q.length s []
  have cs := rShrink s (s.C - 1) (by omega) (by omega) (by omega) (by omega)
  have hT : k ∉ liKeys s → liAdmit s k = (forgetL (pruneL (liCome (shrinkL (s.C - 1) s).1 k)), (shrinkL (s.C - 1) s).2) := fun h => if_neg h
  have hT1 : k ∈ liKeys s → liAdmit s k = (s, []) := fun h => if_pos h
  have c1' := rLKeys s (by omega) (by omega)
  have hkl := ho.keys_len
  have c2 := rHas (liKeys s) k (by omega)
  change (shrinkL (s.C - 1) s).1.C = s.C at f1
  change (shrinkL (s.C - 1) s).1.S.length = s.S.length at f2
  change (shrinkL (s.C - 1) s).1.Q.length ≤ s.Q.length at f3
  generalize shrinkL (s.C - 1) s = R at *
  obtain ⟨⟨C2, S2, Q2⟩, out⟩ := R
  simp only at f1 f2 f3 cs hT p1 p3
  by_cases h : k ∈ liKeys s
  · rw [hT1 h]
    generalize liKeys s = K at *
    obtain ⟨C, S, Q⟩ := s
    refine PCalls.intro2 Try.func86 rfl rfl Try.ntmps86 Try.results86 (by simp) fun n => ?_; simp (maxSteps := 400000) (dsimp := false) only [axs, axw, aresL, afill, Value.oneCell', Nat.reduceLT, Nat.reduceLeDiff, Nat.reduceEqDiff, Nat.reduceAdd, Nat.reduceMul, Nat.reduceSub, Nat.reduceBEq, Int.reduceLE, Int.reduceLT, Int.reduceToNat, Int.reduceNeg, Int.reduceEq, axt, ftK, ft3, AAll, ftQ, SL, tys]
    refine ACallK.strict rfl (c1') (by simp only [SeesL, axs, axt, AS.ev, AS.put, upd, inHeap, Nat.reduceLT, Nat.reduceEqDiff, Nat.reduceAdd, Nat.reduceBEq, SL]; exact see8e5f0) ?_; simp (maxSteps := 400000) (dsimp := false) only [axs, axw, aresL, afill, Value.oneCell', Nat.reduceLT, Nat.reduceLeDiff, Nat.reduceEqDiff, Nat.reduceAdd, Nat.reduceMul, Nat.reduceSub, Nat.reduceBEq, Int.reduceLE, Int.reduceLT, Int.reduceToNat, Int.reduceNeg, Int.reduceEq, axt, ftK, ft3, AAll, ftQ, SL, tys]
    refine ACallK.strict rfl (c2) (by simp only [SeesL, h, axs, axt, AS.ev, AS.put, upd, inHeap, Nat.reduceLT, Nat.reduceEqDiff, Nat.reduceAdd, Nat.reduceBEq, SL]; exact see8e5f0) ?_; simp (maxSteps := 400000) (dsimp := false) only [h, axs, axw, aresL, afill, Value.oneCell', Nat.reduceLT, Nat.reduceLeDiff, Nat.reduceEqDiff, Nat.reduceAdd, Nat.reduceMul, Nat.reduceSub, Nat.reduceBEq, Int.reduceLE, Int.reduceLT, Int.reduceToNat, Int.reduceNeg, Int.reduceEq, axt, ftK, ft3, AAll, ftQ, SL, tys]
    refine ⟨_, rfl, ?_⟩; simp (maxSteps := 400000) (dsimp := false) only [SeesL, axs, axw, aresL, afill, Value.oneCell', Nat.reduceLT, Nat.reduceLeDiff, Nat.reduceEqDiff, Nat.reduceAdd, Nat.reduceMul, Nat.reduceSub, Nat.reduceBEq, Int.reduceLE, Int.reduceLT, Int.reduceToNat, Int.reduceNeg, Int.reduceEq, axt, ftK, ft3, AAll, ftQ, SL, tys] <;> exact see8e5f1
  · rw [hT h]
    clear hT hT1
    subst f1
    have hrl := remK_len S2 k
    have hix := idxK_lt S2 k
    have hk2 : k ∉ Q2 := fun h2 => h (p3.subset (List.mem_append_right _ (List.mem_append_right _ h2)))
    have hB : LiB ((k, 2) :: remK S2 k) Q2 := p1.put k (.inr rfl) p1.qn (fun _ _ => Iff.rfl) ⟨fun hq => absurd hq hk2, fun e => by omega⟩
    have w1 : IntKind.i64.wrap (s.C - 1) = s.C - 1 := IntWalk.i64_in _ ⟨by omega, by omega⟩
    have cm := rMany S2 2 (by omega)
    have cr := rRoom s.C c0 (by omega)
    have ca := rPlace S2 k (by omega)
    have k2 := rStack ⟨s.C, S2, Q2⟩ k 2 (by show S2.length ≤ _; omega)
    have k2 : PCalls Try.prog 79 [SL ⟨s.C, S2, Q2⟩, .sc (.int .u64 k), .sc (.int .i64 2)] (SL ⟨s.C, (k, 2) :: remK S2 k, Q2⟩) := k2
    have k1 := rStack ⟨s.C, S2, Q2⟩ k 1 (by show S2.length ≤ _; omega)
    have k1 : PCalls Try.prog 79 [SL ⟨s.C, S2, Q2⟩, .sc (.int .u64 k), .sc (.int .i64 1)] (SL ⟨s.C, (k, 1) :: remK S2 k, Q2⟩) := k1
    have kc := rCool ⟨s.C, (k, 2) :: remK S2 k, Q2⟩ hB c0 (by show s.C ≤ _; omega) (by show (_ :: remK S2 k).length ≤ _; rw [List.length_cons]; omega) (by show Q2.length ≤ _; omega)
    have kb := rLast ⟨s.C, (k, 1) :: remK S2 k, Q2⟩ k (by show Q2.length ≤ _; omega)
    have kb : PCalls Try.prog 80 [SL ⟨s.C, (k, 1) :: remK S2 k, Q2⟩, .sc (.int .u64 k)] (SL ⟨s.C, (k, 1) :: remK S2 k, lastQ Q2 k⟩) := kb
    obtain ⟨g1, g2, g3⟩ := liCome_facts ⟨s.C, S2, Q2⟩ k c0
    have e1 : ((many 2 S2 : Int) < roomOf s.C ∨ idxK S2 k ≥ 0) → liCome ⟨s.C, S2, Q2⟩ k = coolL ⟨s.C, (k, 2) :: remK S2 k, Q2⟩ := fun h => if_pos h
    have e2 : ¬ ((many 2 S2 : Int) < roomOf s.C ∨ idxK S2 k ≥ 0) → liCome ⟨s.C, S2, Q2⟩ k = ⟨s.C, (k, 1) :: remK S2 k, lastQ Q2 k⟩ := fun h => if_neg h
    have kp := rPrune (liCome ⟨s.C, S2, Q2⟩ k) (by simp only at g2; omega)
    have kf := rForget (pruneL (liCome ⟨s.C, S2, Q2⟩ k)) (by have := pruned_len (liCome ⟨s.C, S2, Q2⟩ k).S; show (pruned _).length ≤ _; simp only at g2; omega) (by show 0 ≤ (liCome ⟨s.C, S2, Q2⟩ k).C; rw [g1]; show 0 ≤ s.C; omega)
    clear g1 g2 g3 c0 hm hr0 p1 p2 p3 p4 hB f4 f5
    generalize hC : liCome ⟨s.C, S2, Q2⟩ k = L at *
    have kf : PCalls Try.prog 96 [SL ⟨L.C, pruned L.S, L.Q⟩] (SL (forgetL (pruneL L))) := kf
    have kp : PCalls Try.prog 78 [SL L] (SL ⟨L.C, pruned L.S, L.Q⟩) := kp
    generalize forgetL (pruneL L) = W at *
    generalize liKeys s = K at *
    obtain ⟨C, S, Q⟩ := s
    simp only at *
    by_cases h1 : (many 2 S2 : Int) < roomOf C
    · have hL := e1 (.inl h1)
      rw [← hL] at kc
      refine PCalls.intro2 Try.func86 rfl rfl Try.ntmps86 Try.results86 (by simp) fun n => ?_; simp (maxSteps := 400000) (dsimp := false) only [axs, axw, aresL, afill, Value.oneCell', Nat.reduceLT, Nat.reduceLeDiff, Nat.reduceEqDiff, Nat.reduceAdd, Nat.reduceMul, Nat.reduceSub, Nat.reduceBEq, Int.reduceLE, Int.reduceLT, Int.reduceToNat, Int.reduceNeg, Int.reduceEq, axt, ftK, ft3, AAll, ftQ, SL, tys]
      refine ACallK.strict rfl (c1') (by simp only [SeesL, axs, axt, AS.ev, AS.put, upd, inHeap, Nat.reduceLT, Nat.reduceEqDiff, Nat.reduceAdd, Nat.reduceBEq, SL]; exact see8e5f0) ?_; simp (maxSteps := 400000) (dsimp := false) only [axs, axw, aresL, afill, Value.oneCell', Nat.reduceLT, Nat.reduceLeDiff, Nat.reduceEqDiff, Nat.reduceAdd, Nat.reduceMul, Nat.reduceSub, Nat.reduceBEq, Int.reduceLE, Int.reduceLT, Int.reduceToNat, Int.reduceNeg, Int.reduceEq, axt, ftK, ft3, AAll, ftQ, SL, tys]
      refine ACallK.strict rfl (c2) (by simp only [SeesL, h, w1, axs, axt, AS.ev, AS.put, upd, inHeap, Nat.reduceLT, Nat.reduceEqDiff, Nat.reduceAdd, Nat.reduceBEq, SL]; exact see8e5f0) ?_; simp (maxSteps := 400000) (dsimp := false) only [h, w1, axs, axw, aresL, afill, Value.oneCell', Nat.reduceLT, Nat.reduceLeDiff, Nat.reduceEqDiff, Nat.reduceAdd, Nat.reduceMul, Nat.reduceSub, Nat.reduceBEq, Int.reduceLE, Int.reduceLT, Int.reduceToNat, Int.reduceNeg, Int.reduceEq, axt, ftK, ft3, AAll, ftQ, SL, tys]
      refine ACallK.strict rfl (cs) (by simp only [SeesL, axs, axt, AS.ev, AS.put, upd, inHeap, Nat.reduceLT, Nat.reduceEqDiff, Nat.reduceAdd, Nat.reduceBEq, SL]; exact see8e5f0) ?_; simp (maxSteps := 400000) (dsimp := false) only [axs, axw, aresL, afill, Value.oneCell', Nat.reduceLT, Nat.reduceLeDiff, Nat.reduceEqDiff, Nat.reduceAdd, Nat.reduceMul, Nat.reduceSub, Nat.reduceBEq, Int.reduceLE, Int.reduceLT, Int.reduceToNat, Int.reduceNeg, Int.reduceEq, axt, ftK, ft3, AAll, ftQ, SL, tys]
      refine ADraw.planR [] [(0, true), (1, true), (2, true), (3, true), (4, true), (5, true), (6, true), (7, true), (8, true), (9, true), (10, true), (11, true), (12, true), (13, true)] [(0, false), (0, false), (0, false), (0, false), (0, false), (0, false), (0, false), (0, false), (0, false), (0, false), (0, false), (0, false), (0, false), (0, false)] mixed (by kernel_rfl) (by kernel_rfl) ?_
      simp (maxSteps := 400000) (dsimp := false) only [axs, axw, aresL, afill, Value.oneCell', Nat.reduceLT, Nat.reduceLeDiff, Nat.reduceEqDiff, Nat.reduceAdd, Nat.reduceMul, Nat.reduceSub, Nat.reduceBEq, Int.reduceLE, Int.reduceLT, Int.reduceToNat, Int.reduceNeg, Int.reduceEq, axt, ftK, ft3, AAll, ftQ, SL, tys]
      refine ACallP.pure rfl (cm) ?_; simp (maxSteps := 400000) (dsimp := false) only [axs, axw, aresL, afill, Value.oneCell', Nat.reduceLT, Nat.reduceLeDiff, Nat.reduceEqDiff, Nat.reduceAdd, Nat.reduceMul, Nat.reduceSub, Nat.reduceBEq, Int.reduceLE, Int.reduceLT, Int.reduceToNat, Int.reduceNeg, Int.reduceEq, axt, ftK, ft3, AAll, ftQ, SL, tys]
      refine ACallP.pure rfl (cr) ?_; simp (maxSteps := 400000) (dsimp := false) only [h1, axs, axw, aresL, afill, Value.oneCell', Nat.reduceLT, Nat.reduceLeDiff, Nat.reduceEqDiff, Nat.reduceAdd, Nat.reduceMul, Nat.reduceSub, Nat.reduceBEq, Int.reduceLE, Int.reduceLT, Int.reduceToNat, Int.reduceNeg, Int.reduceEq, axt, ftK, ft3, AAll, ftQ, SL, tys]
      refine ACallK.strict rfl (k2) (by simp only [SeesL, axs, axt, AS.ev, AS.put, upd, inHeap, Nat.reduceLT, Nat.reduceEqDiff, Nat.reduceAdd, Nat.reduceBEq, SL]; exact see8e5f0) ?_; simp (maxSteps := 400000) (dsimp := false) only [axs, axw, aresL, afill, Value.oneCell', Nat.reduceLT, Nat.reduceLeDiff, Nat.reduceEqDiff, Nat.reduceAdd, Nat.reduceMul, Nat.reduceSub, Nat.reduceBEq, Int.reduceLE, Int.reduceLT, Int.reduceToNat, Int.reduceNeg, Int.reduceEq, axt, ftK, ft3, AAll, ftQ, SL, tys]
      refine ACallK.strict rfl (kc) (by simp only [SeesL, axs, axt, AS.ev, AS.put, upd, inHeap, Nat.reduceLT, Nat.reduceEqDiff, Nat.reduceAdd, Nat.reduceBEq, SL]; exact see8e5f0) ?_; simp (maxSteps := 400000) (dsimp := false) only [axs, axw, aresL, afill, Value.oneCell', Nat.reduceLT, Nat.reduceLeDiff, Nat.reduceEqDiff, Nat.reduceAdd, Nat.reduceMul, Nat.reduceSub, Nat.reduceBEq, Int.reduceLE, Int.reduceLT, Int.reduceToNat, Int.reduceNeg, Int.reduceEq, axt, ftK, ft3, AAll, ftQ, SL, tys]
      refine ACallK.strict rfl (kp) (by simp only [SeesL, axs, axt, AS.ev, AS.put, upd, inHeap, Nat.reduceLT, Nat.reduceEqDiff, Nat.reduceAdd, Nat.reduceBEq, SL]; exact see8e5f0) ?_; simp (maxSteps := 400000) (dsimp := false) only [axs, axw, aresL, afill, Value.oneCell', Nat.reduceLT, Nat.reduceLeDiff, Nat.reduceEqDiff, Nat.reduceAdd, Nat.reduceMul, Nat.reduceSub, Nat.reduceBEq, Int.reduceLE, Int.reduceLT, Int.reduceToNat, Int.reduceNeg, Int.reduceEq, axt, ftK, ft3, AAll, ftQ, SL, tys]
      refine ACallK.strict rfl (kf) (by simp only [SeesL, axs, axt, AS.ev, AS.put, upd, inHeap, Nat.reduceLT, Nat.reduceEqDiff, Nat.reduceAdd, Nat.reduceBEq, SL]; exact see8e5f0) ?_; simp (maxSteps := 400000) (dsimp := false) only [axs, axw, aresL, afill, Value.oneCell', Nat.reduceLT, Nat.reduceLeDiff, Nat.reduceEqDiff, Nat.reduceAdd, Nat.reduceMul, Nat.reduceSub, Nat.reduceBEq, Int.reduceLE, Int.reduceLT, Int.reduceToNat, Int.reduceNeg, Int.reduceEq, axt, ftK, ft3, AAll, ftQ, SL, tys]
      refine ⟨_, rfl, ?_⟩; simp (maxSteps := 400000) (dsimp := false) only [SeesL, axs, axw, aresL, afill, Value.oneCell', Nat.reduceLT, Nat.reduceLeDiff, Nat.reduceEqDiff, Nat.reduceAdd, Nat.reduceMul, Nat.reduceSub, Nat.reduceBEq, Int.reduceLE, Int.reduceLT, Int.reduceToNat, Int.reduceNeg, Int.reduceEq, axt, ftK, ft3, AAll, ftQ, SL, tys] <;> exact see8e5f1
    · by_cases h2 : idxK S2 k ≥ 0
      · have hL := e1 (.inr h2)
        rw [← hL] at kc
        refine PCalls.intro2 Try.func86 rfl rfl Try.ntmps86 Try.results86 (by simp) fun n => ?_; simp (maxSteps := 400000) (dsimp := false) only [axs, axw, aresL, afill, Value.oneCell', Nat.reduceLT, Nat.reduceLeDiff, Nat.reduceEqDiff, Nat.reduceAdd, Nat.reduceMul, Nat.reduceSub, Nat.reduceBEq, Int.reduceLE, Int.reduceLT, Int.reduceToNat, Int.reduceNeg, Int.reduceEq, axt, ftK, ft3, AAll, ftQ, SL, tys]
        refine ACallK.strict rfl (c1') (by simp only [SeesL, axs, axt, AS.ev, AS.put, upd, inHeap, Nat.reduceLT, Nat.reduceEqDiff, Nat.reduceAdd, Nat.reduceBEq, SL]; exact see8e5f0) ?_; simp (maxSteps := 400000) (dsimp := false) only [axs, axw, aresL, afill, Value.oneCell', Nat.reduceLT, Nat.reduceLeDiff, Nat.reduceEqDiff, Nat.reduceAdd, Nat.reduceMul, Nat.reduceSub, Nat.reduceBEq, Int.reduceLE, Int.reduceLT, Int.reduceToNat, Int.reduceNeg, Int.reduceEq, axt, ftK, ft3, AAll, ftQ, SL, tys]
        refine ACallK.strict rfl (c2) (by simp only [SeesL, h, w1, axs, axt, AS.ev, AS.put, upd, inHeap, Nat.reduceLT, Nat.reduceEqDiff, Nat.reduceAdd, Nat.reduceBEq, SL]; exact see8e5f0) ?_; simp (maxSteps := 400000) (dsimp := false) only [h, w1, axs, axw, aresL, afill, Value.oneCell', Nat.reduceLT, Nat.reduceLeDiff, Nat.reduceEqDiff, Nat.reduceAdd, Nat.reduceMul, Nat.reduceSub, Nat.reduceBEq, Int.reduceLE, Int.reduceLT, Int.reduceToNat, Int.reduceNeg, Int.reduceEq, axt, ftK, ft3, AAll, ftQ, SL, tys]
        refine ACallK.strict rfl (cs) (by simp only [SeesL, axs, axt, AS.ev, AS.put, upd, inHeap, Nat.reduceLT, Nat.reduceEqDiff, Nat.reduceAdd, Nat.reduceBEq, SL]; exact see8e5f0) ?_; simp (maxSteps := 400000) (dsimp := false) only [axs, axw, aresL, afill, Value.oneCell', Nat.reduceLT, Nat.reduceLeDiff, Nat.reduceEqDiff, Nat.reduceAdd, Nat.reduceMul, Nat.reduceSub, Nat.reduceBEq, Int.reduceLE, Int.reduceLT, Int.reduceToNat, Int.reduceNeg, Int.reduceEq, axt, ftK, ft3, AAll, ftQ, SL, tys]
        refine ADraw.planR [] [(0, true), (1, true), (2, true), (3, true), (4, true), (5, true), (6, true), (7, true), (8, true), (9, true), (10, true), (11, true), (12, true), (13, true)] [(0, false), (0, false), (0, false), (0, false), (0, false), (0, false), (0, false), (0, false), (0, false), (0, false), (0, false), (0, false), (0, false), (0, false)] mixed (by kernel_rfl) (by kernel_rfl) ?_
        simp (maxSteps := 400000) (dsimp := false) only [axs, axw, aresL, afill, Value.oneCell', Nat.reduceLT, Nat.reduceLeDiff, Nat.reduceEqDiff, Nat.reduceAdd, Nat.reduceMul, Nat.reduceSub, Nat.reduceBEq, Int.reduceLE, Int.reduceLT, Int.reduceToNat, Int.reduceNeg, Int.reduceEq, axt, ftK, ft3, AAll, ftQ, SL, tys]
        refine ACallP.pure rfl (cm) ?_; simp (maxSteps := 400000) (dsimp := false) only [axs, axw, aresL, afill, Value.oneCell', Nat.reduceLT, Nat.reduceLeDiff, Nat.reduceEqDiff, Nat.reduceAdd, Nat.reduceMul, Nat.reduceSub, Nat.reduceBEq, Int.reduceLE, Int.reduceLT, Int.reduceToNat, Int.reduceNeg, Int.reduceEq, axt, ftK, ft3, AAll, ftQ, SL, tys]
        refine ACallP.pure rfl (cr) ?_; simp (maxSteps := 400000) (dsimp := false) only [h1, axs, axw, aresL, afill, Value.oneCell', Nat.reduceLT, Nat.reduceLeDiff, Nat.reduceEqDiff, Nat.reduceAdd, Nat.reduceMul, Nat.reduceSub, Nat.reduceBEq, Int.reduceLE, Int.reduceLT, Int.reduceToNat, Int.reduceNeg, Int.reduceEq, axt, ftK, ft3, AAll, ftQ, SL, tys]
        refine ACallP.pure rfl (ca) ?_; simp (maxSteps := 400000) (dsimp := false) only [h1, h2, eq_true h2, axs, axw, aresL, afill, Value.oneCell', Nat.reduceLT, Nat.reduceLeDiff, Nat.reduceEqDiff, Nat.reduceAdd, Nat.reduceMul, Nat.reduceSub, Nat.reduceBEq, Int.reduceLE, Int.reduceLT, Int.reduceToNat, Int.reduceNeg, Int.reduceEq, axt, ftK, ft3, AAll, ftQ, SL, tys]
        refine ACallK.strict rfl (k2) (by simp only [SeesL, axs, axt, AS.ev, AS.put, upd, inHeap, Nat.reduceLT, Nat.reduceEqDiff, Nat.reduceAdd, Nat.reduceBEq, SL]; exact see8e5f0) ?_; simp (maxSteps := 400000) (dsimp := false) only [axs, axw, aresL, afill, Value.oneCell', Nat.reduceLT, Nat.reduceLeDiff, Nat.reduceEqDiff, Nat.reduceAdd, Nat.reduceMul, Nat.reduceSub, Nat.reduceBEq, Int.reduceLE, Int.reduceLT, Int.reduceToNat, Int.reduceNeg, Int.reduceEq, axt, ftK, ft3, AAll, ftQ, SL, tys]
        refine ACallK.strict rfl (kc) (by simp only [SeesL, axs, axt, AS.ev, AS.put, upd, inHeap, Nat.reduceLT, Nat.reduceEqDiff, Nat.reduceAdd, Nat.reduceBEq, SL]; exact see8e5f0) ?_; simp (maxSteps := 400000) (dsimp := false) only [axs, axw, aresL, afill, Value.oneCell', Nat.reduceLT, Nat.reduceLeDiff, Nat.reduceEqDiff, Nat.reduceAdd, Nat.reduceMul, Nat.reduceSub, Nat.reduceBEq, Int.reduceLE, Int.reduceLT, Int.reduceToNat, Int.reduceNeg, Int.reduceEq, axt, ftK, ft3, AAll, ftQ, SL, tys]
        refine ACallK.strict rfl (kp) (by simp only [SeesL, axs, axt, AS.ev, AS.put, upd, inHeap, Nat.reduceLT, Nat.reduceEqDiff, Nat.reduceAdd, Nat.reduceBEq, SL]; exact see8e5f0) ?_; simp (maxSteps := 400000) (dsimp := false) only [axs, axw, aresL, afill, Value.oneCell', Nat.reduceLT, Nat.reduceLeDiff, Nat.reduceEqDiff, Nat.reduceAdd, Nat.reduceMul, Nat.reduceSub, Nat.reduceBEq, Int.reduceLE, Int.reduceLT, Int.reduceToNat, Int.reduceNeg, Int.reduceEq, axt, ftK, ft3, AAll, ftQ, SL, tys]
        refine ACallK.strict rfl (kf) (by simp only [SeesL, axs, axt, AS.ev, AS.put, upd, inHeap, Nat.reduceLT, Nat.reduceEqDiff, Nat.reduceAdd, Nat.reduceBEq, SL]; exact see8e5f0) ?_; simp (maxSteps := 400000) (dsimp := false) only [axs, axw, aresL, afill, Value.oneCell', Nat.reduceLT, Nat.reduceLeDiff, Nat.reduceEqDiff, Nat.reduceAdd, Nat.reduceMul, Nat.reduceSub, Nat.reduceBEq, Int.reduceLE, Int.reduceLT, Int.reduceToNat, Int.reduceNeg, Int.reduceEq, axt, ftK, ft3, AAll, ftQ, SL, tys]
        refine ⟨_, rfl, ?_⟩; simp (maxSteps := 400000) (dsimp := false) only [SeesL, axs, axw, aresL, afill, Value.oneCell', Nat.reduceLT, Nat.reduceLeDiff, Nat.reduceEqDiff, Nat.reduceAdd, Nat.reduceMul, Nat.reduceSub, Nat.reduceBEq, Int.reduceLE, Int.reduceLT, Int.reduceToNat, Int.reduceNeg, Int.reduceEq, axt, ftK, ft3, AAll, ftQ, SL, tys] <;> exact see8e5f1
      · have hL := e2 (by rintro (h | h); exact h1 h; exact h2 h)
        have kb : PCalls Try.prog 80 [SL ⟨C, (k, 1) :: remK S2 k, Q2⟩, .sc (.int .u64 k)] (SL L) := by rw [hL]; exact kb
        refine PCalls.intro2 Try.func86 rfl rfl Try.ntmps86 Try.results86 (by simp) fun n => ?_; simp (maxSteps := 400000) (dsimp := false) only [axs, axw, aresL, afill, Value.oneCell', Nat.reduceLT, Nat.reduceLeDiff, Nat.reduceEqDiff, Nat.reduceAdd, Nat.reduceMul, Nat.reduceSub, Nat.reduceBEq, Int.reduceLE, Int.reduceLT, Int.reduceToNat, Int.reduceNeg, Int.reduceEq, axt, ftK, ft3, AAll, ftQ, SL, tys]
        refine ACallK.strict rfl (c1') (by simp only [SeesL, axs, axt, AS.ev, AS.put, upd, inHeap, Nat.reduceLT, Nat.reduceEqDiff, Nat.reduceAdd, Nat.reduceBEq, SL]; exact see8e5f0) ?_; simp (maxSteps := 400000) (dsimp := false) only [axs, axw, aresL, afill, Value.oneCell', Nat.reduceLT, Nat.reduceLeDiff, Nat.reduceEqDiff, Nat.reduceAdd, Nat.reduceMul, Nat.reduceSub, Nat.reduceBEq, Int.reduceLE, Int.reduceLT, Int.reduceToNat, Int.reduceNeg, Int.reduceEq, axt, ftK, ft3, AAll, ftQ, SL, tys]
        refine ACallK.strict rfl (c2) (by simp only [SeesL, h, w1, axs, axt, AS.ev, AS.put, upd, inHeap, Nat.reduceLT, Nat.reduceEqDiff, Nat.reduceAdd, Nat.reduceBEq, SL]; exact see8e5f0) ?_; simp (maxSteps := 400000) (dsimp := false) only [h, w1, axs, axw, aresL, afill, Value.oneCell', Nat.reduceLT, Nat.reduceLeDiff, Nat.reduceEqDiff, Nat.reduceAdd, Nat.reduceMul, Nat.reduceSub, Nat.reduceBEq, Int.reduceLE, Int.reduceLT, Int.reduceToNat, Int.reduceNeg, Int.reduceEq, axt, ftK, ft3, AAll, ftQ, SL, tys]
        refine ACallK.strict rfl (cs) (by simp only [SeesL, axs, axt, AS.ev, AS.put, upd, inHeap, Nat.reduceLT, Nat.reduceEqDiff, Nat.reduceAdd, Nat.reduceBEq, SL]; exact see8e5f0) ?_; simp (maxSteps := 400000) (dsimp := false) only [axs, axw, aresL, afill, Value.oneCell', Nat.reduceLT, Nat.reduceLeDiff, Nat.reduceEqDiff, Nat.reduceAdd, Nat.reduceMul, Nat.reduceSub, Nat.reduceBEq, Int.reduceLE, Int.reduceLT, Int.reduceToNat, Int.reduceNeg, Int.reduceEq, axt, ftK, ft3, AAll, ftQ, SL, tys]
        refine ADraw.planR [] [(0, true), (1, true), (2, true), (3, true), (4, true), (5, true), (6, true), (7, true), (8, true), (9, true), (10, true), (11, true), (12, true), (13, true)] [(0, false), (0, false), (0, false), (0, false), (0, false), (0, false), (0, false), (0, false), (0, false), (0, false), (0, false), (0, false), (0, false), (0, false)] mixed (by kernel_rfl) (by kernel_rfl) ?_
        simp (maxSteps := 400000) (dsimp := false) only [axs, axw, aresL, afill, Value.oneCell', Nat.reduceLT, Nat.reduceLeDiff, Nat.reduceEqDiff, Nat.reduceAdd, Nat.reduceMul, Nat.reduceSub, Nat.reduceBEq, Int.reduceLE, Int.reduceLT, Int.reduceToNat, Int.reduceNeg, Int.reduceEq, axt, ftK, ft3, AAll, ftQ, SL, tys]
        refine ACallP.pure rfl (cm) ?_; simp (maxSteps := 400000) (dsimp := false) only [axs, axw, aresL, afill, Value.oneCell', Nat.reduceLT, Nat.reduceLeDiff, Nat.reduceEqDiff, Nat.reduceAdd, Nat.reduceMul, Nat.reduceSub, Nat.reduceBEq, Int.reduceLE, Int.reduceLT, Int.reduceToNat, Int.reduceNeg, Int.reduceEq, axt, ftK, ft3, AAll, ftQ, SL, tys]
        refine ACallP.pure rfl (cr) ?_; simp (maxSteps := 400000) (dsimp := false) only [h1, axs, axw, aresL, afill, Value.oneCell', Nat.reduceLT, Nat.reduceLeDiff, Nat.reduceEqDiff, Nat.reduceAdd, Nat.reduceMul, Nat.reduceSub, Nat.reduceBEq, Int.reduceLE, Int.reduceLT, Int.reduceToNat, Int.reduceNeg, Int.reduceEq, axt, ftK, ft3, AAll, ftQ, SL, tys]
        refine ACallP.pure rfl (ca) ?_; simp (maxSteps := 400000) (dsimp := false) only [h1, h2, eq_false h2, axs, axw, aresL, afill, Value.oneCell', Nat.reduceLT, Nat.reduceLeDiff, Nat.reduceEqDiff, Nat.reduceAdd, Nat.reduceMul, Nat.reduceSub, Nat.reduceBEq, Int.reduceLE, Int.reduceLT, Int.reduceToNat, Int.reduceNeg, Int.reduceEq, axt, ftK, ft3, AAll, ftQ, SL, tys]
        refine ACallK.strict rfl (k1) (by simp only [SeesL, axs, axt, AS.ev, AS.put, upd, inHeap, Nat.reduceLT, Nat.reduceEqDiff, Nat.reduceAdd, Nat.reduceBEq, SL]; exact see8e5f0) ?_; simp (maxSteps := 400000) (dsimp := false) only [axs, axw, aresL, afill, Value.oneCell', Nat.reduceLT, Nat.reduceLeDiff, Nat.reduceEqDiff, Nat.reduceAdd, Nat.reduceMul, Nat.reduceSub, Nat.reduceBEq, Int.reduceLE, Int.reduceLT, Int.reduceToNat, Int.reduceNeg, Int.reduceEq, axt, ftK, ft3, AAll, ftQ, SL, tys]
        refine ACallK.strict rfl (kb) (by simp only [SeesL, axs, axt, AS.ev, AS.put, upd, inHeap, Nat.reduceLT, Nat.reduceEqDiff, Nat.reduceAdd, Nat.reduceBEq, SL]; exact see8e5f0) ?_; simp (maxSteps := 400000) (dsimp := false) only [axs, axw, aresL, afill, Value.oneCell', Nat.reduceLT, Nat.reduceLeDiff, Nat.reduceEqDiff, Nat.reduceAdd, Nat.reduceMul, Nat.reduceSub, Nat.reduceBEq, Int.reduceLE, Int.reduceLT, Int.reduceToNat, Int.reduceNeg, Int.reduceEq, axt, ftK, ft3, AAll, ftQ, SL, tys]
        refine ACallK.strict rfl (kp) (by simp only [SeesL, axs, axt, AS.ev, AS.put, upd, inHeap, Nat.reduceLT, Nat.reduceEqDiff, Nat.reduceAdd, Nat.reduceBEq, SL]; exact see8e5f0) ?_; simp (maxSteps := 400000) (dsimp := false) only [axs, axw, aresL, afill, Value.oneCell', Nat.reduceLT, Nat.reduceLeDiff, Nat.reduceEqDiff, Nat.reduceAdd, Nat.reduceMul, Nat.reduceSub, Nat.reduceBEq, Int.reduceLE, Int.reduceLT, Int.reduceToNat, Int.reduceNeg, Int.reduceEq, axt, ftK, ft3, AAll, ftQ, SL, tys]
        refine ACallK.strict rfl (kf) (by simp only [SeesL, axs, axt, AS.ev, AS.put, upd, inHeap, Nat.reduceLT, Nat.reduceEqDiff, Nat.reduceAdd, Nat.reduceBEq, SL]; exact see8e5f0) ?_; simp (maxSteps := 400000) (dsimp := false) only [axs, axw, aresL, afill, Value.oneCell', Nat.reduceLT, Nat.reduceLeDiff, Nat.reduceEqDiff, Nat.reduceAdd, Nat.reduceMul, Nat.reduceSub, Nat.reduceBEq, Int.reduceLE, Int.reduceLT, Int.reduceToNat, Int.reduceNeg, Int.reduceEq, axt, ftK, ft3, AAll, ftQ, SL, tys]
        refine ⟨_, rfl, ?_⟩; simp (maxSteps := 400000) (dsimp := false) only [SeesL, axs, axw, aresL, afill, Value.oneCell', Nat.reduceLT, Nat.reduceLeDiff, Nat.reduceEqDiff, Nat.reduceAdd, Nat.reduceMul, Nat.reduceSub, Nat.reduceBEq, Int.reduceLE, Int.reduceLT, Int.reduceToNat, Int.reduceNeg, Int.reduceEq, axt, ftK, ft3, AAll, ftQ, SL, tys] <;> exact see8e5f1
theorem rLResize12 (s : LS) (c : Int) (h : LiOk s) : PCalls Try.prog 69 [SL s, .sc (.int .i64 c)] (.tup [SL (liResize s c).1, .lst 1 (U (liResize s c).2)]) := by
  obtain ⟨k0, k1⟩ := capOf_le c
  obtain ⟨hl, hq⟩ := h.bounds
  have hB := h.b
  clear h
  obtain ⟨C0, S, Q⟩ := s
  simp only at hl hq hB
  have cn := rCap c
  have cc := rCool ⟨capOf c, S, Q⟩ hB k0 k1 (by show S.length ≤ _; omega) (by show Q.length ≤ _; omega)
  obtain ⟨g1, g2, g3, g4⟩ := coolL_facts ⟨capOf c, S, Q⟩ k0
  have hr0 := roomOf_le k0
  simp only at g1 g2 g3 g4
  obtain ⟨f1, f2, f3, f4, f5⟩ := shrunk_facts (capOf c) (coolL ⟨capOf c, S, Q⟩).Q.length (coolL ⟨capOf c, S, Q⟩) []
  have cs := rShrink (coolL ⟨capOf c, S, Q⟩) (capOf c) (by omega) k1 (by omega) (by omega)
  show PCalls _ _ _ (.tup [SL (forgetL (pruneL (shrinkL (capOf c) (coolL ⟨capOf c, S, Q⟩)).1)), .lst 1 (U (shrinkL (capOf c) (coolL ⟨capOf c, S, Q⟩)).2)])
  change (shrinkL (capOf c) (coolL ⟨capOf c, S, Q⟩)).1.C = _ at f1
  change (shrinkL (capOf c) (coolL ⟨capOf c, S, Q⟩)).1.S.length = _ at f2
  have kp := rPrune (shrinkL (capOf c) (coolL ⟨capOf c, S, Q⟩)).1 (by omega)
  have kf := rForget (pruneL (shrinkL (capOf c) (coolL ⟨capOf c, S, Q⟩)).1) (by have := pruned_len (shrinkL (capOf c) (coolL ⟨capOf c, S, Q⟩)).1.S; show (pruned _).length ≤ _; omega) (by show 0 ≤ (shrinkL (capOf c) (coolL ⟨capOf c, S, Q⟩)).1.C; rw [f1, g1]; omega)
  clear f1 f2 f3 f4 f5
  have hLC : (coolL ⟨capOf c, S, Q⟩).C = capOf c := g1
  clear g2 g3 g4 hr0 k0 k1 hB
  generalize coolL ⟨capOf c, S, Q⟩ = L at *
  generalize shrinkL (capOf c) L = R at *
  obtain ⟨R1, out⟩ := R
  simp only at cs kp kf ⊢
  have kf : PCalls Try.prog 96 [SL ⟨R1.C, pruned R1.S, R1.Q⟩] (SL (forgetL (pruneL R1))) := kf
  have kp : PCalls Try.prog 78 [SL R1] (SL ⟨R1.C, pruned R1.S, R1.Q⟩) := kp
  generalize forgetL (pruneL R1) = W at *
  refine PCalls.intro2 Try.func69 rfl rfl Try.ntmps69 Try.results69 (by simp) fun n => ?_; simp (maxSteps := 400000) (dsimp := false) only [axs, axw, aresL, afill, Value.oneCell', Nat.reduceLT, Nat.reduceLeDiff, Nat.reduceEqDiff, Nat.reduceAdd, Nat.reduceMul, Nat.reduceSub, Nat.reduceBEq, Int.reduceLE, Int.reduceLT, Int.reduceToNat, Int.reduceNeg, Int.reduceEq, axt, ftK, ft3, AAll, ftQ, SL, tys]
  refine ACallK.strict rfl (cn) (by simp only [SeesL, axs, axt, AS.ev, AS.put, upd, inHeap, Nat.reduceLT, Nat.reduceEqDiff, Nat.reduceAdd, Nat.reduceBEq, SL]; exact see8e5f0) ?_; simp (maxSteps := 400000) (dsimp := false) only [axs, axw, aresL, afill, Value.oneCell', Nat.reduceLT, Nat.reduceLeDiff, Nat.reduceEqDiff, Nat.reduceAdd, Nat.reduceMul, Nat.reduceSub, Nat.reduceBEq, Int.reduceLE, Int.reduceLT, Int.reduceToNat, Int.reduceNeg, Int.reduceEq, axt, ftK, ft3, AAll, ftQ, SL, tys]
  refine ADraw.planR [] [(0, true), (1, true), (2, true), (3, true), (4, true), (5, true), (6, true), (7, true), (8, true), (9, true), (10, true)] [(0, false), (0, false), (0, false), (0, false), (0, false), (0, false), (0, false), (0, false), (0, false), (0, false), (0, false)] mixed (by kernel_rfl) (by kernel_rfl) ?_
  simp (maxSteps := 400000) (dsimp := false) only [axs, axw, aresL, afill, Value.oneCell', Nat.reduceLT, Nat.reduceLeDiff, Nat.reduceEqDiff, Nat.reduceAdd, Nat.reduceMul, Nat.reduceSub, Nat.reduceBEq, Int.reduceLE, Int.reduceLT, Int.reduceToNat, Int.reduceNeg, Int.reduceEq, axt, ftK, ft3, AAll, ftQ, SL, tys]
  refine ACallP.pure rfl (cc) ?_; simp (maxSteps := 400000) (dsimp := false) only [axs, axw, aresL, afill, Value.oneCell', Nat.reduceLT, Nat.reduceLeDiff, Nat.reduceEqDiff, Nat.reduceAdd, Nat.reduceMul, Nat.reduceSub, Nat.reduceBEq, Int.reduceLE, Int.reduceLT, Int.reduceToNat, Int.reduceNeg, Int.reduceEq, axt, ftK, ft3, AAll, ftQ, SL, tys]
  refine ACallP.pure rfl (cs) ?_; simp (maxSteps := 400000) (dsimp := false) only [axs, axw, aresL, afill, Value.oneCell', Nat.reduceLT, Nat.reduceLeDiff, Nat.reduceEqDiff, Nat.reduceAdd, Nat.reduceMul, Nat.reduceSub, Nat.reduceBEq, Int.reduceLE, Int.reduceLT, Int.reduceToNat, Int.reduceNeg, Int.reduceEq, axt, ftK, ft3, AAll, ftQ, SL, tys]
  refine ACallK.strict rfl (kp) (by simp only [SeesL, axs, axt, AS.ev, AS.put, upd, inHeap, Nat.reduceLT, Nat.reduceEqDiff, Nat.reduceAdd, Nat.reduceBEq, SL]; exact see8e5f0) ?_; simp (maxSteps := 400000) (dsimp := false) only [axs, axw, aresL, afill, Value.oneCell', Nat.reduceLT, Nat.reduceLeDiff, Nat.reduceEqDiff, Nat.reduceAdd, Nat.reduceMul, Nat.reduceSub, Nat.reduceBEq, Int.reduceLE, Int.reduceLT, Int.reduceToNat, Int.reduceNeg, Int.reduceEq, axt, ftK, ft3, AAll, ftQ, SL, tys]
  refine ACallK.strict rfl (kf) (by simp only [SeesL, axs, axt, AS.ev, AS.put, upd, inHeap, Nat.reduceLT, Nat.reduceEqDiff, Nat.reduceAdd, Nat.reduceBEq, SL]; exact see8e5f0) ?_; simp (maxSteps := 400000) (dsimp := false) only [axs, axw, aresL, afill, Value.oneCell', Nat.reduceLT, Nat.reduceLeDiff, Nat.reduceEqDiff, Nat.reduceAdd, Nat.reduceMul, Nat.reduceSub, Nat.reduceBEq, Int.reduceLE, Int.reduceLT, Int.reduceToNat, Int.reduceNeg, Int.reduceEq, axt, ftK, ft3, AAll, ftQ, SL, tys]
  refine ⟨_, rfl, ?_⟩; simp (maxSteps := 400000) (dsimp := false) only [SeesL, axs, axw, aresL, afill, Value.oneCell', Nat.reduceLT, Nat.reduceLeDiff, Nat.reduceEqDiff, Nat.reduceAdd, Nat.reduceMul, Nat.reduceSub, Nat.reduceBEq, Int.reduceLE, Int.reduceLT, Int.reduceToNat, Int.reduceNeg, Int.reduceEq, axt, ftK, ft3, AAll, ftQ, SL, tys] <;> exact see8e5f1
end Go.Al.K12
end
