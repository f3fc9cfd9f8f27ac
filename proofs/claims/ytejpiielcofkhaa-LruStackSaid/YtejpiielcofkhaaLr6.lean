/- A cache of less capacity has the first keys of one of more: the law answers true. Conditions: the numbers fit their kinds. -/
import Derived.Test.YtejpiielcofkhaaLr3
import Derived.Test.YtejpiielcofkhaaEv1
set_option linter.unusedVariables false
set_option linter.unusedSimpArgs false
set_option maxRecDepth 20000
set_option maxHeartbeats 1600000
-- axs, AThen, ABlock, dstsOk, AStep, callsF, AWant, aop, AS.ev, AS.put, upd, AS.bound, abin, aint, aload, astore, cellsAt, AV.cells, alen, elems, AV.int?, FPost, aresL, ares1, pack, afill, splice, Value.oneCell', Nat.reduceLT, Nat.reduceLeDiff, Nat.reduceEqDiff, Nat.reduceAdd, Nat.reduceMul, Nat.reduceSub, Nat.reduceBEq, Int.reduceLE, Int.reduceLT, Int.reduceToNat, Int.reduceNeg, Int.reduceEq, AAll, neS, AOpsD_cons_solo, List.contains_cons, List.contains_nil, Bool.or_false, Bool.or_true, Bool.false_or, Bool.true_or, pickB_nil, pickB_zero, pickB_succ, List.eraseIdx_zero, List.eraseIdx_cons_succ, List.tail_cons, S2, ty3, in3, ty4, bo4, ty5, in5, ty22, sl22, ty24, sl24, ty26, st26, ty28, st28, ty32, in32, ty33, in33, ty35, st35, ty47, sl47, ty49, sl49, ar49, ty68, ty73: S2
-- NOIDS: noIdsE_DD
namespace Go.Al
open Go.Proofs
def calm (l : List Deed) : List Deed := l.map fun a => ⟨4, a.key, 0⟩
theorem DD_snoc (l : List Deed) (x : Deed) : DD (l ++ [x]) = DD l ++ [[.sc (.int .u8 x.kind), .sc (.int .u64 x.key), .sc (.int .u16 x.num)]] := by simp [DD, Deed.cells]
theorem rCalm (l : List Deed) (hl : l.length ≤ 1000) : PCalls Try.prog 21 [.lst 3 (DD l)] (.lst 3 (DD (calm l))) := by
  refine PCalls.intro2 Try.func21 rfl rfl Try.ntmps21 Try.results21 (by simp) fun n => ?_
  simp (maxSteps := 400000) (dsimp := false) only [axs, AThen, ABlock, dstsOk, AStep, callsF, AWant, aop, AS.ev, AS.put, upd, AS.bound, abin, aint, aload, astore, cellsAt, AV.cells, alen, elems, AV.int?, FPost, aresL, ares1, pack, afill, splice, Value.oneCell', Nat.reduceLT, Nat.reduceLeDiff, Nat.reduceEqDiff, Nat.reduceAdd, Nat.reduceMul, Nat.reduceSub, Nat.reduceBEq, Int.reduceLE, Int.reduceLT, Int.reduceToNat, Int.reduceNeg, Int.reduceEq, AAll, neS, AOpsD_cons_solo, List.contains_cons, List.contains_nil, Bool.or_false, Bool.or_true, Bool.false_or, Bool.true_or, pickB_nil, pickB_zero, pickB_succ, List.eraseIdx_zero, List.eraseIdx_cons_succ, List.tail_cons, S2, ty3, in3, ty4, bo4, ty5, in5, ty22, sl22, ty24, sl24, ty26, st26, ty28, st28, ty32, in32, ty33, in33, ty35, st35, ty47, sl47, ty49, sl49, ar49, ty68, ty73]
  refine ALoop.upto l.length (fun p s => s.t 0 = .lst 3 (DD l) ∧ s.t 4 = .sc (.int .i64 p) ∧ Live 35 3 s.H (DD (calm (l.take p))) (s.t 3)) ⟨rfl, rfl, Live.nil⟩ ?_
  rintro p s hp hb ⟨e0, e4, hv⟩
  rcases Nat.lt_or_ge p l.length with hlt | hge
  · obtain ⟨x, hx, hp0, hpl, hw, hT, hD⟩ := idx hlt (by omega)
    have hg := DD_get hx
    have hs : DD (calm (l.take (p + 1))) = DD (calm (l.take p)) ++ [[.sc (.int .u8 4), .sc (.int .u64 x.key), .sc (.int .u16 0)]] := by rw [hT]; simp [calm, DD, Deed.cells]
    have hql : (DD (calm (l.take p))).length ≤ 1000 := by simp [DD, calm]; omega
    rw [hs]
    generalize DD (calm (l.take p)) = q at *
    rcases hv.cases hb with ⟨h7, h8⟩ | ⟨id, hlt2, hne, h7, h8⟩
    · subst h7
      simp (maxSteps := 400000) (dsimp := false) only [e0, e4, h8, hg, hp0, hpl, hw, DD_len, axs, AThen, ABlock, dstsOk, AStep, callsF, AWant, aop, AS.ev, AS.put, upd, AS.bound, abin, aint, aload, astore, cellsAt, AV.cells, alen, elems, AV.int?, FPost, aresL, ares1, pack, afill, splice, Value.oneCell', Nat.reduceLT, Nat.reduceLeDiff, Nat.reduceEqDiff, Nat.reduceAdd, Nat.reduceMul, Nat.reduceSub, Nat.reduceBEq, Int.reduceLE, Int.reduceLT, Int.reduceToNat, Int.reduceNeg, Int.reduceEq, AAll, neS, AOpsD_cons_solo, List.contains_cons, List.contains_nil, Bool.or_false, Bool.or_true, Bool.false_or, Bool.true_or, pickB_nil, pickB_zero, pickB_succ, List.eraseIdx_zero, List.eraseIdx_cons_succ, List.tail_cons, S2, ty3, in3, ty4, bo4, ty5, in5, ty22, sl22, ty24, sl24, ty26, st26, ty28, st28, ty32, in32, ty33, in33, ty35, st35, ty47, sl47, ty49, sl49, ar49, ty68, ty73]
      exact ⟨hlt, Live.mk (if_pos rfl) rfl⟩
    · have b1 : (q.length + 1) * 24 ≤ 140737488355328 := by omega
      have b2 : q.length + 1 ≤ 1099511627776 := by omega
      simp (maxSteps := 400000) (dsimp := false) only [e0, e4, h7, h8, hne, hg, hp0, hpl, hw, b1, b2, DD_len, axs, AThen, ABlock, dstsOk, AStep, callsF, AWant, aop, AS.ev, AS.put, upd, AS.bound, abin, aint, aload, astore, cellsAt, AV.cells, alen, elems, AV.int?, FPost, aresL, ares1, pack, afill, splice, Value.oneCell', Nat.reduceLT, Nat.reduceLeDiff, Nat.reduceEqDiff, Nat.reduceAdd, Nat.reduceMul, Nat.reduceSub, Nat.reduceBEq, Int.reduceLE, Int.reduceLT, Int.reduceToNat, Int.reduceNeg, Int.reduceEq, AAll, neS, AOpsD_cons_solo, List.contains_cons, List.contains_nil, Bool.or_false, Bool.or_true, Bool.false_or, Bool.true_or, pickB_nil, pickB_zero, pickB_succ, List.eraseIdx_zero, List.eraseIdx_cons_succ, List.tail_cons, S2, ty3, in3, ty4, bo4, ty5, in5, ty22, sl22, ty24, sl24, ty26, st26, ty28, st28, ty32, in32, ty33, in33, ty35, st35, ty47, sl47, ty49, sl49, ar49, ty68, ty73]
      exact ⟨hlt, Live.mk (if_pos rfl) (by simp)⟩
  · have hpl : ¬ (p : Int) < l.length := by omega
    rw [List.take_of_length_le hge] at hv
    simp (maxSteps := 400000) (dsimp := false) only [e0, e4, hpl, DD_len, axs, AThen, ABlock, dstsOk, AStep, callsF, AWant, aop, AS.ev, AS.put, upd, AS.bound, abin, aint, aload, astore, cellsAt, AV.cells, alen, elems, AV.int?, FPost, aresL, ares1, pack, afill, splice, Value.oneCell', Nat.reduceLT, Nat.reduceLeDiff, Nat.reduceEqDiff, Nat.reduceAdd, Nat.reduceMul, Nat.reduceSub, Nat.reduceBEq, Int.reduceLE, Int.reduceLT, Int.reduceToNat, Int.reduceNeg, Int.reduceEq, AAll, neS, AOpsD_cons_solo, List.contains_cons, List.contains_nil, Bool.or_false, Bool.or_true, Bool.false_or, Bool.true_or, pickB_nil, pickB_zero, pickB_succ, List.eraseIdx_zero, List.eraseIdx_cons_succ, List.tail_cons, S2, ty3, in3, ty4, bo4, ty5, in5, ty22, sl22, ty24, sl24, ty26, st26, ty28, st28, ty32, in32, ty33, in33, ty35, st35, ty47, sl47, ty49, sl49, ar49, ty68, ty73]
    exact ⟨_, rfl, hv.sees (noIdsE_DD _)⟩
theorem take_without_lo : ∀ (M : List Int) (c : Nat) (k : Int), M.Nodup → k ∈ M.take c → without (M.take c) k = (without M k).take (c - 1)
  | [], c, k, _, h => by simp at h
  | x :: M, 0, k, _, h => by simp at h
  | x :: M, c + 1, k, hn, h => by
    rw [List.nodup_cons] at hn
    rw [List.take_succ_cons] at h ⊢
    by_cases e : x = k
    · subst e
      have h1 : x ∉ M.take c := fun h2 => hn.1 (List.mem_of_mem_take h2)
      have h3 : without (x :: M.take c) x = without (M.take c) x := by simp [without]
      have h4 : without (x :: M) x = without M x := by simp [without]
      rw [h3, h4, without_same h1, without_same hn.1]
      simp
    · have h1 : k ∈ M.take c := by
        rcases List.mem_cons.1 h with h | h
        · exact absurd h.symm e
        · exact h
      have h3 : without (x :: M.take c) k = x :: without (M.take c) k := by simp [without, e]
      have h4 : without (x :: M) k = x :: without M k := by simp [without, e]
      have hc : 0 < c := by
        rcases Nat.eq_zero_or_pos c with h0 | h0
        · subst h0; simp at h1
        · exact h0
      rw [h3, h4, take_without_lo M c k hn.2 h1]
      obtain ⟨d, rfl⟩ : ∃ d, c = d + 1 := ⟨c - 1, by omega⟩
      simp
theorem take_without_hi : ∀ (M : List Int) (c : Nat) (k : Int), k ∉ M.take c → (without M k).take c = M.take c
  | [], c, k, _ => by simp [without]
  | x :: M, 0, k, _ => by simp
  | x :: M, c + 1, k, h => by
    rw [List.take_succ_cons, List.mem_cons] at h
    have h1 : ¬ k = x := fun e => h (.inl e)
    have e : ¬ x = k := fun e => h1 e.symm
    have h4 : without (x :: M) k = x :: without M k := by simp [without, e]
    rw [h4, List.take_succ_cons, List.take_succ_cons, take_without_hi M c k (fun h2 => h (.inr h2))]
theorem cutTo_nat (l : List Int) (z : Int) : cutTo l z = l.take (z.toNat) := by unfold cutTo; congr 1; omega
theorem kind_calm (k : Int) (t : Bool) : kindOf ⟨4, k, 0⟩ t = if t then 1 else 2 := by
  have h : (4 : Int).tmod 10 = 4 := by decide
  unfold kindOf
  simp [h]
/-- One step of both. -/
theorem stack_step {c d : Nat} {M : List Int} (hcd : c ≤ d) (hc : 1 ≤ c) (hn : M.Nodup) (k : Int) :
    (lruDo c (M.take c) ⟨4, k, 0⟩).1 = c ∧ (lruDo d M ⟨4, k, 0⟩).1 = d ∧ (lruDo c (M.take c) ⟨4, k, 0⟩).2.1 = (lruDo d M ⟨4, k, 0⟩).2.1.take c := by
  obtain ⟨b, rfl⟩ : ∃ b, c = b + 1 := ⟨c - 1, by omega⟩
  unfold lruDo
  simp only [kind_calm]
  by_cases h1 : k ∈ M.take (b + 1)
  · have h2 : k ∈ M := List.mem_of_mem_take h1
    simp only [h1, h2, decide_true, if_true]
    refine ⟨trivial, trivial, ?_⟩
    show lruTouch _ _ = (lruTouch M k).take (b + 1)
    unfold lruTouch
    rw [if_pos h1, if_pos h2, List.take_succ_cons, take_without_lo M (b + 1) k hn h1, Nat.add_sub_cancel]
  · by_cases h2 : k ∈ M
    · simp only [h1, h2, decide_true, decide_false, if_true, if_false, Bool.false_eq_true, show ¬ (2 : Int) = 1 by omega]
      refine ⟨trivial, trivial, ?_⟩
      show lruAdmit _ _ _ = (lruTouch M k).take (b + 1)
      unfold lruTouch lruAdmit
      rw [if_neg h1, if_pos h2, List.take_succ_cons, cutTo_nat]
      have h3 : k ∉ M.take b := fun h => h1 (by rw [List.take_add_one]; exact List.mem_append_left _ h)
      have e : (((b + 1 : Nat) : Int) - 1).toNat = b := by omega
      have h4 : k ∉ (M.take (b + 1)).take b := by rw [List.take_take, Nat.min_eq_left (by omega)]; exact h3
      rw [e, without_same h4, List.take_take, Nat.min_eq_left (by omega), take_without_hi M b k h3]
    · simp only [h1, h2, decide_false, if_true, if_false, Bool.false_eq_true, show ¬ (2 : Int) = 1 by omega]
      refine ⟨trivial, trivial, ?_⟩
      show lruAdmit _ _ _ = (lruAdmit _ _ _).take (b + 1)
      unfold lruAdmit
      rw [if_neg h1, if_neg h2, List.take_succ_cons, cutTo_nat, cutTo_nat]
      have e : (((b + 1 : Nat) : Int) - 1).toNat = b := by omega
      have e2 : ((d : Int) - 1).toNat = d - 1 := by omega
      have h3 : k ∉ M.take (d - 1) := fun h => h2 (List.mem_of_mem_take h)
      have h4 : k ∉ (M.take (b + 1)).take b := fun h => h1 (List.mem_of_mem_take h)
      rw [e, e2, without_same h3, without_same h4, List.take_take, List.take_take, Nat.min_eq_left (by omega), Nat.min_eq_left (by omega)]
theorem stack_run {c d : Nat} (hcd : c ≤ d) (hc : 1 ≤ c) (hd : d ≤ 14) : ∀ (l : List Deed) (M : List Int), LruOk d M → (∀ a ∈ l, a.Fits) →
    ∃ M' : List Int, (calm l).foldl lruStep ((c : Int), M.take c) = ((c : Int), M'.take c) ∧ (calm l).foldl lruStep ((d : Int), M) = ((d : Int), M') ∧ LruOk d M'
  | [], M, h, _ => ⟨M, rfl, rfl, h⟩
  | a :: l, M, h, hf => by
    have haf := hf a (by simp)
    obtain ⟨s1, s2, s3⟩ := stack_step (M := M) hcd hc h.nodup a.key
    have hok := h.act (a := ⟨4, a.key, 0⟩) ⟨by show (0 : Int) ≤ 4; omega, by show (4 : Int) < 256; omega, haf.y0, haf.y1, Int.le_refl 0, by show (0 : Int) < 65536; omega⟩
    rw [s2] at hok
    obtain ⟨M', m1, m2, m3⟩ := stack_run hcd hc hd l _ hok (fun b hb => hf b (by simp [hb]))
    refine ⟨M', ?_, ?_, m3⟩
    · show (calm l).foldl lruStep (lruStep ((c : Int), M.take c) ⟨4, a.key, 0⟩) = _
      unfold lruStep at m1 ⊢
      rw [s1, s3]; exact m1
    · show (calm l).foldl lruStep (lruStep ((d : Int), M) ⟨4, a.key, 0⟩) = _
      unfold lruStep at m2 ⊢
      rw [s2]; exact m2
theorem calm_fits {l : List Deed} (hf : ∀ a ∈ l, a.Fits) : ∀ a ∈ calm l, a.Fits := by
  intro a ha
  obtain ⟨b, hb, rfl⟩ := List.mem_map.1 ha
  have := hf b hb
  exact ⟨by show (0 : Int) ≤ 4; omega, by show (4 : Int) < 256; omega, this.y0, this.y1, Int.le_refl 0, by show (0 : Int) < 65536; omega⟩
theorem law_LruStack (x : List Value) (fx : FitK [some .u8, some .u8] x) (e : List (List Value)) (f : ∀ x ∈ e, FitK [some .u8, some .u64, some .u16] x) : PCalls Try.prog 5 [.agg (x.map .sc), .lst 3 (e.map fun e => e.map .sc)] (.sc (.bool true)) := by
  obtain ⟨l, hl, hf, _⟩ := rows_DD f
  simp only [FitK] at fx
  obtain ⟨x0, r, rfl, hx0, x1, r, rfl, hx1, rfl⟩ := fx
  obtain ⟨u0, u1⟩ := wfu8 hx0
  obtain ⟨v0, v1⟩ := wfu8 hx1
  rw [hl]
  obtain ⟨c, hc, hc11⟩ : ∃ c : Nat, x0.tmod 12 = c ∧ c ≤ 11 := by
    have h2 := Int.tmod_nonneg 12 u0
    have h3 := Int.tmod_lt_of_pos x0 (show (0 : Int) < 12 by omega)
    exact ⟨(x0.tmod 12).toNat, by omega, by omega⟩
  obtain ⟨d, hd, hd11⟩ : ∃ d : Nat, x1.tmod 12 = d ∧ d ≤ 11 := by
    have h2 := Int.tmod_nonneg 12 v0
    have h3 := Int.tmod_lt_of_pos x1 (show (0 : Int) < 12 by omega)
    exact ⟨(x1.tmod 12).toNat, by omega, by omega⟩
  have hmin : (if (d : Int) < c then (d : Int) else c) = ((min c d : Nat) : Int) := by by_cases h : (d : Int) < c <;> simp [h] <;> omega
  have hmax : (if (d : Int) > c then (d : Int) else c) = ((max c d : Nat) : Int) := by by_cases h : (d : Int) > c <;> simp [h] <;> omega
  have g0 : (0 : Int) < ((2 : Nat) : Int) := by omega
  refine PCalls.intro2 Try.func5 rfl rfl Try.ntmps5 Try.results5 (by simp) fun n => ?_
  simp (maxSteps := 400000) (dsimp := false) only [axs, AThen, ABlock, dstsOk, AStep, callsF, AWant, aop, AS.ev, AS.put, upd, AS.bound, abin, aint, aload, astore, cellsAt, AV.cells, alen, elems, AV.int?, FPost, aresL, ares1, pack, afill, splice, Value.oneCell', Nat.reduceLT, Nat.reduceLeDiff, Nat.reduceEqDiff, Nat.reduceAdd, Nat.reduceMul, Nat.reduceSub, Nat.reduceBEq, Int.reduceLE, Int.reduceLT, Int.reduceToNat, Int.reduceNeg, Int.reduceEq, AAll, neS, AOpsD_cons_solo, List.contains_cons, List.contains_nil, Bool.or_false, Bool.or_true, Bool.false_or, Bool.true_or, pickB_nil, pickB_zero, pickB_succ, List.eraseIdx_zero, List.eraseIdx_cons_succ, List.tail_cons, S2, ty3, in3, ty4, bo4, ty5, in5, ty22, sl22, ty24, sl24, ty26, st26, ty28, st28, ty32, in32, ty33, in33, ty35, st35, ty47, sl47, ty49, sl49, ar49, ty68, ty73]
  refine ACallK.strict rfl (awake08) (by simp only [SeesL, DD_len, axs, AThen, ABlock, dstsOk, AStep, callsF, AWant, aop, AS.ev, AS.put, upd, AS.bound, abin, aint, aload, astore, cellsAt, AV.cells, alen, elems, AV.int?, FPost, aresL, ares1, pack, afill, splice, Value.oneCell', Nat.reduceLT, Nat.reduceLeDiff, Nat.reduceEqDiff, Nat.reduceAdd, Nat.reduceMul, Nat.reduceSub, Nat.reduceBEq, Int.reduceLE, Int.reduceLT, Int.reduceToNat, Int.reduceNeg, Int.reduceEq, AAll, neS, AOpsD_cons_solo, List.contains_cons, List.contains_nil, Bool.or_false, Bool.or_true, Bool.false_or, Bool.true_or, pickB_nil, pickB_zero, pickB_succ, List.eraseIdx_zero, List.eraseIdx_cons_succ, List.tail_cons, S2, ty3, in3, ty4, bo4, ty5, in5, ty22, sl22, ty24, sl24, ty26, st26, ty28, st28, ty32, in32, ty33, in33, ty35, st35, ty47, sl47, ty49, sl49, ar49, ty68, ty73]; repeat' (first | exact True.intro | exact Sees.sc | exact Sees.none | ((with_reducible refine Sees.same ?_) <;> simp [noIds, noIdsL, noIdsE, noIdsE_U, noIdsE_UU, noIdsE_DD] <;> fail) | (refine Live.sees ?_ ?_ <;> first | assumption | (simp [noIdsE_U, noIdsE_UU, noIdsE_DD] <;> fail)) | (refine Sees.obj ?_ ?_ ?_ <;> first | exact ⟨_, _, by assumption, rfl⟩ | (simp [U_len, UU_len] <;> fail) | (simp [noIdsE_U, noIdsE_UU, noIdsE_DD] <;> fail) | (simp [U, UU, upd] <;> fail)) | (refine Sees.of_seen 3 ?_ <;> simp [seen, upd, noIdsE, noIdsL, noIds, U, UU, Nat.add_assoc] <;> fail) | refine Sees.agg ?_ | refine And.intro ?_ ?_ | simp only [SeesL])) ?_; simp (maxSteps := 400000) (dsimp := false) only [DD_len, axs, AThen, ABlock, dstsOk, AStep, callsF, AWant, aop, AS.ev, AS.put, upd, AS.bound, abin, aint, aload, astore, cellsAt, AV.cells, alen, elems, AV.int?, FPost, aresL, ares1, pack, afill, splice, Value.oneCell', Nat.reduceLT, Nat.reduceLeDiff, Nat.reduceEqDiff, Nat.reduceAdd, Nat.reduceMul, Nat.reduceSub, Nat.reduceBEq, Int.reduceLE, Int.reduceLT, Int.reduceToNat, Int.reduceNeg, Int.reduceEq, AAll, neS, AOpsD_cons_solo, List.contains_cons, List.contains_nil, Bool.or_false, Bool.or_true, Bool.false_or, Bool.true_or, pickB_nil, pickB_zero, pickB_succ, List.eraseIdx_zero, List.eraseIdx_cons_succ, List.tail_cons, S2, ty3, in3, ty4, bo4, ty5, in5, ty22, sl22, ty24, sl24, ty26, st26, ty28, st28, ty32, in32, ty33, in33, ty35, st35, ty47, sl47, ty49, sl49, ar49, ty68, ty73]
  by_cases h : l.length ≤ 60
  · have h' : ¬ (l.length : Int) > 60 := by omega
    have hcl : (calm l).length = l.length := by simp [calm]
    simp (maxSteps := 400000) (dsimp := false) only [h', axs, AThen, ABlock, dstsOk, AStep, callsF, AWant, aop, AS.ev, AS.put, upd, AS.bound, abin, aint, aload, astore, cellsAt, AV.cells, alen, elems, AV.int?, FPost, aresL, ares1, pack, afill, splice, Value.oneCell', Nat.reduceLT, Nat.reduceLeDiff, Nat.reduceEqDiff, Nat.reduceAdd, Nat.reduceMul, Nat.reduceSub, Nat.reduceBEq, Int.reduceLE, Int.reduceLT, Int.reduceToNat, Int.reduceNeg, Int.reduceEq, AAll, neS, AOpsD_cons_solo, List.contains_cons, List.contains_nil, Bool.or_false, Bool.or_true, Bool.false_or, Bool.true_or, pickB_nil, pickB_zero, pickB_succ, List.eraseIdx_zero, List.eraseIdx_cons_succ, List.tail_cons, S2, ty3, in3, ty4, bo4, ty5, in5, ty22, sl22, ty24, sl24, ty26, st26, ty28, st28, ty32, in32, ty33, in33, ty35, st35, ty47, sl47, ty49, sl49, ar49, ty68, ty73]
    refine ACallK.strict rfl (rCalm l (by omega)) (by simp only [SeesL, axs, AThen, ABlock, dstsOk, AStep, callsF, AWant, aop, AS.ev, AS.put, upd, AS.bound, abin, aint, aload, astore, cellsAt, AV.cells, alen, elems, AV.int?, FPost, aresL, ares1, pack, afill, splice, Value.oneCell', Nat.reduceLT, Nat.reduceLeDiff, Nat.reduceEqDiff, Nat.reduceAdd, Nat.reduceMul, Nat.reduceSub, Nat.reduceBEq, Int.reduceLE, Int.reduceLT, Int.reduceToNat, Int.reduceNeg, Int.reduceEq, AAll, neS, AOpsD_cons_solo, List.contains_cons, List.contains_nil, Bool.or_false, Bool.or_true, Bool.false_or, Bool.true_or, pickB_nil, pickB_zero, pickB_succ, List.eraseIdx_zero, List.eraseIdx_cons_succ, List.tail_cons, S2, ty3, in3, ty4, bo4, ty5, in5, ty22, sl22, ty24, sl24, ty26, st26, ty28, st28, ty32, in32, ty33, in33, ty35, st35, ty47, sl47, ty49, sl49, ar49, ty68, ty73]; repeat' (first | exact True.intro | exact Sees.sc | exact Sees.none | ((with_reducible refine Sees.same ?_) <;> simp [noIds, noIdsL, noIdsE, noIdsE_U, noIdsE_UU, noIdsE_DD] <;> fail) | (refine Live.sees ?_ ?_ <;> first | assumption | (simp [noIdsE_U, noIdsE_UU, noIdsE_DD] <;> fail)) | (refine Sees.obj ?_ ?_ ?_ <;> first | exact ⟨_, _, by assumption, rfl⟩ | (simp [U_len, UU_len] <;> fail) | (simp [noIdsE_U, noIdsE_UU, noIdsE_DD] <;> fail) | (simp [U, UU, upd] <;> fail)) | (refine Sees.of_seen 3 ?_ <;> simp [seen, upd, noIdsE, noIdsL, noIds, U, UU, Nat.add_assoc] <;> fail) | refine Sees.agg ?_ | refine And.intro ?_ ?_ | simp only [SeesL])) ?_; simp (maxSteps := 400000) (dsimp := false) only [axs, AThen, ABlock, dstsOk, AStep, callsF, AWant, aop, AS.ev, AS.put, upd, AS.bound, abin, aint, aload, astore, cellsAt, AV.cells, alen, elems, AV.int?, FPost, aresL, ares1, pack, afill, splice, Value.oneCell', Nat.reduceLT, Nat.reduceLeDiff, Nat.reduceEqDiff, Nat.reduceAdd, Nat.reduceMul, Nat.reduceSub, Nat.reduceBEq, Int.reduceLE, Int.reduceLT, Int.reduceToNat, Int.reduceNeg, Int.reduceEq, AAll, neS, AOpsD_cons_solo, List.contains_cons, List.contains_nil, Bool.or_false, Bool.or_true, Bool.false_or, Bool.true_or, pickB_nil, pickB_zero, pickB_succ, List.eraseIdx_zero, List.eraseIdx_cons_succ, List.tail_cons, S2, ty3, in3, ty4, bo4, ty5, in5, ty22, sl22, ty24, sl24, ty26, st26, ty28, st28, ty32, in32, ty33, in33, ty35, st35, ty47, sl47, ty49, sl49, ar49, ty68, ty73]
    refine AStepX.arrayAddr (k := 0) rfl ar49 ty5 rfl rfl (by omega) g0 ?_
    simp (maxSteps := 400000) (dsimp := false) only [hc, axs, AThen, ABlock, dstsOk, AStep, callsF, AWant, aop, AS.ev, AS.put, upd, AS.bound, abin, aint, aload, astore, cellsAt, AV.cells, alen, elems, AV.int?, FPost, aresL, ares1, pack, afill, splice, Value.oneCell', Nat.reduceLT, Nat.reduceLeDiff, Nat.reduceEqDiff, Nat.reduceAdd, Nat.reduceMul, Nat.reduceSub, Nat.reduceBEq, Int.reduceLE, Int.reduceLT, Int.reduceToNat, Int.reduceNeg, Int.reduceEq, AAll, neS, AOpsD_cons_solo, List.contains_cons, List.contains_nil, Bool.or_false, Bool.or_true, Bool.false_or, Bool.true_or, pickB_nil, pickB_zero, pickB_succ, List.eraseIdx_zero, List.eraseIdx_cons_succ, List.tail_cons, S2, ty3, in3, ty4, bo4, ty5, in5, ty22, sl22, ty24, sl24, ty26, st26, ty28, st28, ty32, in32, ty33, in33, ty35, st35, ty47, sl47, ty49, sl49, ar49, ty68, ty73]
    refine AStepX.arrayAddr (k := 1) rfl ar49 ty5 rfl rfl (by omega) (by show (1 : Int) < ((2 : Nat) : Int); omega) ?_
    simp (maxSteps := 400000) (dsimp := false) only [hc, hd, hmin, axs, AThen, ABlock, dstsOk, AStep, callsF, AWant, aop, AS.ev, AS.put, upd, AS.bound, abin, aint, aload, astore, cellsAt, AV.cells, alen, elems, AV.int?, FPost, aresL, ares1, pack, afill, splice, Value.oneCell', Nat.reduceLT, Nat.reduceLeDiff, Nat.reduceEqDiff, Nat.reduceAdd, Nat.reduceMul, Nat.reduceSub, Nat.reduceBEq, Int.reduceLE, Int.reduceLT, Int.reduceToNat, Int.reduceNeg, Int.reduceEq, AAll, neS, AOpsD_cons_solo, List.contains_cons, List.contains_nil, Bool.or_false, Bool.or_true, Bool.false_or, Bool.true_or, pickB_nil, pickB_zero, pickB_succ, List.eraseIdx_zero, List.eraseIdx_cons_succ, List.tail_cons, S2, ty3, in3, ty4, bo4, ty5, in5, ty22, sl22, ty24, sl24, ty26, st26, ty28, st28, ty32, in32, ty33, in33, ty35, st35, ty47, sl47, ty49, sl49, ar49, ty68, ty73]
    refine ACallK.strict rfl (cLrun ((min c d : Nat) : Int) (calm l) (by omega) (by omega) (by omega) (calm_fits hf)) (by simp only [SeesL, axs, AThen, ABlock, dstsOk, AStep, callsF, AWant, aop, AS.ev, AS.put, upd, AS.bound, abin, aint, aload, astore, cellsAt, AV.cells, alen, elems, AV.int?, FPost, aresL, ares1, pack, afill, splice, Value.oneCell', Nat.reduceLT, Nat.reduceLeDiff, Nat.reduceEqDiff, Nat.reduceAdd, Nat.reduceMul, Nat.reduceSub, Nat.reduceBEq, Int.reduceLE, Int.reduceLT, Int.reduceToNat, Int.reduceNeg, Int.reduceEq, AAll, neS, AOpsD_cons_solo, List.contains_cons, List.contains_nil, Bool.or_false, Bool.or_true, Bool.false_or, Bool.true_or, pickB_nil, pickB_zero, pickB_succ, List.eraseIdx_zero, List.eraseIdx_cons_succ, List.tail_cons, S2, ty3, in3, ty4, bo4, ty5, in5, ty22, sl22, ty24, sl24, ty26, st26, ty28, st28, ty32, in32, ty33, in33, ty35, st35, ty47, sl47, ty49, sl49, ar49, ty68, ty73]; repeat' (first | exact True.intro | exact Sees.sc | exact Sees.none | ((with_reducible refine Sees.same ?_) <;> simp [noIds, noIdsL, noIdsE, noIdsE_U, noIdsE_UU, noIdsE_DD] <;> fail) | (refine Live.sees ?_ ?_ <;> first | assumption | (simp [noIdsE_U, noIdsE_UU, noIdsE_DD] <;> fail)) | (refine Sees.obj ?_ ?_ ?_ <;> first | exact ⟨_, _, by assumption, rfl⟩ | (simp [U_len, UU_len] <;> fail) | (simp [noIdsE_U, noIdsE_UU, noIdsE_DD] <;> fail) | (simp [U, UU, upd] <;> fail)) | (refine Sees.of_seen 3 ?_ <;> simp [seen, upd, noIdsE, noIdsL, noIds, U, UU, Nat.add_assoc] <;> fail) | refine Sees.agg ?_ | refine And.intro ?_ ?_ | simp only [SeesL])) ?_; simp (maxSteps := 400000) (dsimp := false) only [axs, AThen, ABlock, dstsOk, AStep, callsF, AWant, aop, AS.ev, AS.put, upd, AS.bound, abin, aint, aload, astore, cellsAt, AV.cells, alen, elems, AV.int?, FPost, aresL, ares1, pack, afill, splice, Value.oneCell', Nat.reduceLT, Nat.reduceLeDiff, Nat.reduceEqDiff, Nat.reduceAdd, Nat.reduceMul, Nat.reduceSub, Nat.reduceBEq, Int.reduceLE, Int.reduceLT, Int.reduceToNat, Int.reduceNeg, Int.reduceEq, AAll, neS, AOpsD_cons_solo, List.contains_cons, List.contains_nil, Bool.or_false, Bool.or_true, Bool.false_or, Bool.true_or, pickB_nil, pickB_zero, pickB_succ, List.eraseIdx_zero, List.eraseIdx_cons_succ, List.tail_cons, S2, ty3, in3, ty4, bo4, ty5, in5, ty22, sl22, ty24, sl24, ty26, st26, ty28, st28, ty32, in32, ty33, in33, ty35, st35, ty47, sl47, ty49, sl49, ar49, ty68, ty73]
    have hm1 : (((min c d : Nat) : Int)).tmod 12 = ((min c d : Nat) : Int) := by rw [Int.tmod_eq_of_lt (by omega) (by omega)]
    have hm2 : (((max c d : Nat) : Int)).tmod 12 = ((max c d : Nat) : Int) := by rw [Int.tmod_eq_of_lt (by omega) (by omega)]
    obtain ⟨M, m1, m2, m3⟩ := stack_run (c := 1 + min c d) (d := 1 + max c d) (by omega) (by omega) (by omega) l [] ⟨by omega, by omega, by simp; omega, List.nodup_nil⟩ hf
    have r1 : lruRun ((min c d : Nat) : Int) (calm l) = (((1 + min c d : Nat) : Int), M.take (1 + min c d)) := by
      unfold lruRun
      rw [hm1, show (1 + ((min c d : Nat) : Int)) = ((1 + min c d : Nat) : Int) by omega, ← m1]
      simp
    have r2 : lruRun ((max c d : Nat) : Int) (calm l) = (((1 + max c d : Nat) : Int), M) := by
      unfold lruRun
      rw [hm2, show (1 + ((max c d : Nat) : Int)) = ((1 + max c d : Nat) : Int) by omega, ← m2]
    have hM := m3.short.1
    have hMl := m3.len
    rw [r1]
    refine ACallK.strict rfl (cLKeys _ (M.take (1 + min c d)) (by simp; omega)) (by simp only [SeesL, axs, AThen, ABlock, dstsOk, AStep, callsF, AWant, aop, AS.ev, AS.put, upd, AS.bound, abin, aint, aload, astore, cellsAt, AV.cells, alen, elems, AV.int?, FPost, aresL, ares1, pack, afill, splice, Value.oneCell', Nat.reduceLT, Nat.reduceLeDiff, Nat.reduceEqDiff, Nat.reduceAdd, Nat.reduceMul, Nat.reduceSub, Nat.reduceBEq, Int.reduceLE, Int.reduceLT, Int.reduceToNat, Int.reduceNeg, Int.reduceEq, AAll, neS, AOpsD_cons_solo, List.contains_cons, List.contains_nil, Bool.or_false, Bool.or_true, Bool.false_or, Bool.true_or, pickB_nil, pickB_zero, pickB_succ, List.eraseIdx_zero, List.eraseIdx_cons_succ, List.tail_cons, S2, ty3, in3, ty4, bo4, ty5, in5, ty22, sl22, ty24, sl24, ty26, st26, ty28, st28, ty32, in32, ty33, in33, ty35, st35, ty47, sl47, ty49, sl49, ar49, ty68, ty73]; repeat' (first | exact True.intro | exact Sees.sc | exact Sees.none | ((with_reducible refine Sees.same ?_) <;> simp [noIds, noIdsL, noIdsE, noIdsE_U, noIdsE_UU, noIdsE_DD] <;> fail) | (refine Live.sees ?_ ?_ <;> first | assumption | (simp [noIdsE_U, noIdsE_UU, noIdsE_DD] <;> fail)) | (refine Sees.obj ?_ ?_ ?_ <;> first | exact ⟨_, _, by assumption, rfl⟩ | (simp [U_len, UU_len] <;> fail) | (simp [noIdsE_U, noIdsE_UU, noIdsE_DD] <;> fail) | (simp [U, UU, upd] <;> fail)) | (refine Sees.of_seen 3 ?_ <;> simp [seen, upd, noIdsE, noIdsL, noIds, U, UU, Nat.add_assoc] <;> fail) | refine Sees.agg ?_ | refine And.intro ?_ ?_ | simp only [SeesL])) ?_; simp (maxSteps := 400000) (dsimp := false) only [axs, AThen, ABlock, dstsOk, AStep, callsF, AWant, aop, AS.ev, AS.put, upd, AS.bound, abin, aint, aload, astore, cellsAt, AV.cells, alen, elems, AV.int?, FPost, aresL, ares1, pack, afill, splice, Value.oneCell', Nat.reduceLT, Nat.reduceLeDiff, Nat.reduceEqDiff, Nat.reduceAdd, Nat.reduceMul, Nat.reduceSub, Nat.reduceBEq, Int.reduceLE, Int.reduceLT, Int.reduceToNat, Int.reduceNeg, Int.reduceEq, AAll, neS, AOpsD_cons_solo, List.contains_cons, List.contains_nil, Bool.or_false, Bool.or_true, Bool.false_or, Bool.true_or, pickB_nil, pickB_zero, pickB_succ, List.eraseIdx_zero, List.eraseIdx_cons_succ, List.tail_cons, S2, ty3, in3, ty4, bo4, ty5, in5, ty22, sl22, ty24, sl24, ty26, st26, ty28, st28, ty32, in32, ty33, in33, ty35, st35, ty47, sl47, ty49, sl49, ar49, ty68, ty73]
    refine AStepX.arrayAddr (k := 0) rfl ar49 ty5 rfl rfl (by omega) g0 ?_
    simp (maxSteps := 400000) (dsimp := false) only [hc, axs, AThen, ABlock, dstsOk, AStep, callsF, AWant, aop, AS.ev, AS.put, upd, AS.bound, abin, aint, aload, astore, cellsAt, AV.cells, alen, elems, AV.int?, FPost, aresL, ares1, pack, afill, splice, Value.oneCell', Nat.reduceLT, Nat.reduceLeDiff, Nat.reduceEqDiff, Nat.reduceAdd, Nat.reduceMul, Nat.reduceSub, Nat.reduceBEq, Int.reduceLE, Int.reduceLT, Int.reduceToNat, Int.reduceNeg, Int.reduceEq, AAll, neS, AOpsD_cons_solo, List.contains_cons, List.contains_nil, Bool.or_false, Bool.or_true, Bool.false_or, Bool.true_or, pickB_nil, pickB_zero, pickB_succ, List.eraseIdx_zero, List.eraseIdx_cons_succ, List.tail_cons, S2, ty3, in3, ty4, bo4, ty5, in5, ty22, sl22, ty24, sl24, ty26, st26, ty28, st28, ty32, in32, ty33, in33, ty35, st35, ty47, sl47, ty49, sl49, ar49, ty68, ty73]
    refine AStepX.arrayAddr (k := 1) rfl ar49 ty5 rfl rfl (by omega) (by show (1 : Int) < ((2 : Nat) : Int); omega) ?_
    simp (maxSteps := 400000) (dsimp := false) only [hc, hd, hmax, axs, AThen, ABlock, dstsOk, AStep, callsF, AWant, aop, AS.ev, AS.put, upd, AS.bound, abin, aint, aload, astore, cellsAt, AV.cells, alen, elems, AV.int?, FPost, aresL, ares1, pack, afill, splice, Value.oneCell', Nat.reduceLT, Nat.reduceLeDiff, Nat.reduceEqDiff, Nat.reduceAdd, Nat.reduceMul, Nat.reduceSub, Nat.reduceBEq, Int.reduceLE, Int.reduceLT, Int.reduceToNat, Int.reduceNeg, Int.reduceEq, AAll, neS, AOpsD_cons_solo, List.contains_cons, List.contains_nil, Bool.or_false, Bool.or_true, Bool.false_or, Bool.true_or, pickB_nil, pickB_zero, pickB_succ, List.eraseIdx_zero, List.eraseIdx_cons_succ, List.tail_cons, S2, ty3, in3, ty4, bo4, ty5, in5, ty22, sl22, ty24, sl24, ty26, st26, ty28, st28, ty32, in32, ty33, in33, ty35, st35, ty47, sl47, ty49, sl49, ar49, ty68, ty73]
    refine ACallK.strict rfl (cLrun ((max c d : Nat) : Int) (calm l) (by omega) (by omega) (by omega) (calm_fits hf)) (by simp only [SeesL, axs, AThen, ABlock, dstsOk, AStep, callsF, AWant, aop, AS.ev, AS.put, upd, AS.bound, abin, aint, aload, astore, cellsAt, AV.cells, alen, elems, AV.int?, FPost, aresL, ares1, pack, afill, splice, Value.oneCell', Nat.reduceLT, Nat.reduceLeDiff, Nat.reduceEqDiff, Nat.reduceAdd, Nat.reduceMul, Nat.reduceSub, Nat.reduceBEq, Int.reduceLE, Int.reduceLT, Int.reduceToNat, Int.reduceNeg, Int.reduceEq, AAll, neS, AOpsD_cons_solo, List.contains_cons, List.contains_nil, Bool.or_false, Bool.or_true, Bool.false_or, Bool.true_or, pickB_nil, pickB_zero, pickB_succ, List.eraseIdx_zero, List.eraseIdx_cons_succ, List.tail_cons, S2, ty3, in3, ty4, bo4, ty5, in5, ty22, sl22, ty24, sl24, ty26, st26, ty28, st28, ty32, in32, ty33, in33, ty35, st35, ty47, sl47, ty49, sl49, ar49, ty68, ty73]; repeat' (first | exact True.intro | exact Sees.sc | exact Sees.none | ((with_reducible refine Sees.same ?_) <;> simp [noIds, noIdsL, noIdsE, noIdsE_U, noIdsE_UU, noIdsE_DD] <;> fail) | (refine Live.sees ?_ ?_ <;> first | assumption | (simp [noIdsE_U, noIdsE_UU, noIdsE_DD] <;> fail)) | (refine Sees.obj ?_ ?_ ?_ <;> first | exact ⟨_, _, by assumption, rfl⟩ | (simp [U_len, UU_len] <;> fail) | (simp [noIdsE_U, noIdsE_UU, noIdsE_DD] <;> fail) | (simp [U, UU, upd] <;> fail)) | (refine Sees.of_seen 3 ?_ <;> simp [seen, upd, noIdsE, noIdsL, noIds, U, UU, Nat.add_assoc] <;> fail) | refine Sees.agg ?_ | refine And.intro ?_ ?_ | simp only [SeesL])) ?_; simp (maxSteps := 400000) (dsimp := false) only [axs, AThen, ABlock, dstsOk, AStep, callsF, AWant, aop, AS.ev, AS.put, upd, AS.bound, abin, aint, aload, astore, cellsAt, AV.cells, alen, elems, AV.int?, FPost, aresL, ares1, pack, afill, splice, Value.oneCell', Nat.reduceLT, Nat.reduceLeDiff, Nat.reduceEqDiff, Nat.reduceAdd, Nat.reduceMul, Nat.reduceSub, Nat.reduceBEq, Int.reduceLE, Int.reduceLT, Int.reduceToNat, Int.reduceNeg, Int.reduceEq, AAll, neS, AOpsD_cons_solo, List.contains_cons, List.contains_nil, Bool.or_false, Bool.or_true, Bool.false_or, Bool.true_or, pickB_nil, pickB_zero, pickB_succ, List.eraseIdx_zero, List.eraseIdx_cons_succ, List.tail_cons, S2, ty3, in3, ty4, bo4, ty5, in5, ty22, sl22, ty24, sl24, ty26, st26, ty28, st28, ty32, in32, ty33, in33, ty35, st35, ty47, sl47, ty49, sl49, ar49, ty68, ty73]
    rw [r2]
    have hlen : (M.take (1 + min c d)).length = min (1 + min c d) M.length := List.length_take
    have hle : ¬ ((M.take (1 + min c d)).length : Int) > (M.length : Int) := by omega
    have hle2 : ((M.take (1 + min c d)).length : Int) ≤ (M.length : Int) := by omega
    have hle3 : (0 : Int) ≤ ((M.take (1 + min c d)).length : Int) := by omega
    have ht : M.take (M.take (1 + min c d)).length = M.take (1 + min c d) := by
      rw [hlen]
      rcases Nat.le_total (1 + min c d) M.length with h | h
      · rw [Nat.min_eq_left h]
      · rw [Nat.min_eq_right h, List.take_of_length_le h, List.take_length]
    refine ACallK.strict rfl (cLKeys _ M hM) (by simp only [SeesL, U_len, hle, hle2, hle3, U_take, ht, axs, AThen, ABlock, dstsOk, AStep, callsF, AWant, aop, AS.ev, AS.put, upd, AS.bound, abin, aint, aload, astore, cellsAt, AV.cells, alen, elems, AV.int?, FPost, aresL, ares1, pack, afill, splice, Value.oneCell', Nat.reduceLT, Nat.reduceLeDiff, Nat.reduceEqDiff, Nat.reduceAdd, Nat.reduceMul, Nat.reduceSub, Nat.reduceBEq, Int.reduceLE, Int.reduceLT, Int.reduceToNat, Int.reduceNeg, Int.reduceEq, AAll, neS, AOpsD_cons_solo, List.contains_cons, List.contains_nil, Bool.or_false, Bool.or_true, Bool.false_or, Bool.true_or, pickB_nil, pickB_zero, pickB_succ, List.eraseIdx_zero, List.eraseIdx_cons_succ, List.tail_cons, S2, ty3, in3, ty4, bo4, ty5, in5, ty22, sl22, ty24, sl24, ty26, st26, ty28, st28, ty32, in32, ty33, in33, ty35, st35, ty47, sl47, ty49, sl49, ar49, ty68, ty73]; repeat' (first | exact True.intro | exact Sees.sc | exact Sees.none | ((with_reducible refine Sees.same ?_) <;> simp [noIds, noIdsL, noIdsE, noIdsE_U, noIdsE_UU, noIdsE_DD] <;> fail) | (refine Live.sees ?_ ?_ <;> first | assumption | (simp [noIdsE_U, noIdsE_UU, noIdsE_DD] <;> fail)) | (refine Sees.obj ?_ ?_ ?_ <;> first | exact ⟨_, _, by assumption, rfl⟩ | (simp [U_len, UU_len] <;> fail) | (simp [noIdsE_U, noIdsE_UU, noIdsE_DD] <;> fail) | (simp [U, UU, upd] <;> fail)) | (refine Sees.of_seen 3 ?_ <;> simp [seen, upd, noIdsE, noIdsL, noIds, U, UU, Nat.add_assoc] <;> fail) | refine Sees.agg ?_ | refine And.intro ?_ ?_ | simp only [SeesL])) ?_; simp (maxSteps := 400000) (dsimp := false) only [U_len, hle, hle2, hle3, U_take, ht, axs, AThen, ABlock, dstsOk, AStep, callsF, AWant, aop, AS.ev, AS.put, upd, AS.bound, abin, aint, aload, astore, cellsAt, AV.cells, alen, elems, AV.int?, FPost, aresL, ares1, pack, afill, splice, Value.oneCell', Nat.reduceLT, Nat.reduceLeDiff, Nat.reduceEqDiff, Nat.reduceAdd, Nat.reduceMul, Nat.reduceSub, Nat.reduceBEq, Int.reduceLE, Int.reduceLT, Int.reduceToNat, Int.reduceNeg, Int.reduceEq, AAll, neS, AOpsD_cons_solo, List.contains_cons, List.contains_nil, Bool.or_false, Bool.or_true, Bool.false_or, Bool.true_or, pickB_nil, pickB_zero, pickB_succ, List.eraseIdx_zero, List.eraseIdx_cons_succ, List.tail_cons, S2, ty3, in3, ty4, bo4, ty5, in5, ty22, sl22, ty24, sl24, ty26, st26, ty28, st28, ty32, in32, ty33, in33, ty35, st35, ty47, sl47, ty49, sl49, ar49, ty68, ty73]
    refine ACallK.strict rfl (rSame (M.take (1 + min c d)) (M.take (1 + min c d)) (by omega) (by omega)) (by simp only [SeesL, U_len, axs, AThen, ABlock, dstsOk, AStep, callsF, AWant, aop, AS.ev, AS.put, upd, AS.bound, abin, aint, aload, astore, cellsAt, AV.cells, alen, elems, AV.int?, FPost, aresL, ares1, pack, afill, splice, Value.oneCell', Nat.reduceLT, Nat.reduceLeDiff, Nat.reduceEqDiff, Nat.reduceAdd, Nat.reduceMul, Nat.reduceSub, Nat.reduceBEq, Int.reduceLE, Int.reduceLT, Int.reduceToNat, Int.reduceNeg, Int.reduceEq, AAll, neS, AOpsD_cons_solo, List.contains_cons, List.contains_nil, Bool.or_false, Bool.or_true, Bool.false_or, Bool.true_or, pickB_nil, pickB_zero, pickB_succ, List.eraseIdx_zero, List.eraseIdx_cons_succ, List.tail_cons, S2, ty3, in3, ty4, bo4, ty5, in5, ty22, sl22, ty24, sl24, ty26, st26, ty28, st28, ty32, in32, ty33, in33, ty35, st35, ty47, sl47, ty49, sl49, ar49, ty68, ty73]; repeat' (first | exact True.intro | exact Sees.sc | exact Sees.none | ((with_reducible refine Sees.same ?_) <;> simp [noIds, noIdsL, noIdsE, noIdsE_U, noIdsE_UU, noIdsE_DD] <;> fail) | (refine Live.sees ?_ ?_ <;> first | assumption | (simp [noIdsE_U, noIdsE_UU, noIdsE_DD] <;> fail)) | (refine Sees.obj ?_ ?_ ?_ <;> first | exact ⟨_, _, by assumption, rfl⟩ | (simp [U_len, UU_len] <;> fail) | (simp [noIdsE_U, noIdsE_UU, noIdsE_DD] <;> fail) | (simp [U, UU, upd] <;> fail)) | (refine Sees.of_seen 3 ?_ <;> simp [seen, upd, noIdsE, noIdsL, noIds, U, UU, Nat.add_assoc] <;> fail) | refine Sees.agg ?_ | refine And.intro ?_ ?_ | simp only [SeesL])) ?_; simp (maxSteps := 400000) (dsimp := false) only [U_len, axs, AThen, ABlock, dstsOk, AStep, callsF, AWant, aop, AS.ev, AS.put, upd, AS.bound, abin, aint, aload, astore, cellsAt, AV.cells, alen, elems, AV.int?, FPost, aresL, ares1, pack, afill, splice, Value.oneCell', Nat.reduceLT, Nat.reduceLeDiff, Nat.reduceEqDiff, Nat.reduceAdd, Nat.reduceMul, Nat.reduceSub, Nat.reduceBEq, Int.reduceLE, Int.reduceLT, Int.reduceToNat, Int.reduceNeg, Int.reduceEq, AAll, neS, AOpsD_cons_solo, List.contains_cons, List.contains_nil, Bool.or_false, Bool.or_true, Bool.false_or, Bool.true_or, pickB_nil, pickB_zero, pickB_succ, List.eraseIdx_zero, List.eraseIdx_cons_succ, List.tail_cons, S2, ty3, in3, ty4, bo4, ty5, in5, ty22, sl22, ty24, sl24, ty26, st26, ty28, st28, ty32, in32, ty33, in33, ty35, st35, ty47, sl47, ty49, sl49, ar49, ty68, ty73]
    refine AStepX.arrayAddr (k := 0) rfl ar49 ty5 rfl rfl (by omega) g0 ?_
    simp (maxSteps := 400000) (dsimp := false) only [hc, axs, AThen, ABlock, dstsOk, AStep, callsF, AWant, aop, AS.ev, AS.put, upd, AS.bound, abin, aint, aload, astore, cellsAt, AV.cells, alen, elems, AV.int?, FPost, aresL, ares1, pack, afill, splice, Value.oneCell', Nat.reduceLT, Nat.reduceLeDiff, Nat.reduceEqDiff, Nat.reduceAdd, Nat.reduceMul, Nat.reduceSub, Nat.reduceBEq, Int.reduceLE, Int.reduceLT, Int.reduceToNat, Int.reduceNeg, Int.reduceEq, AAll, neS, AOpsD_cons_solo, List.contains_cons, List.contains_nil, Bool.or_false, Bool.or_true, Bool.false_or, Bool.true_or, pickB_nil, pickB_zero, pickB_succ, List.eraseIdx_zero, List.eraseIdx_cons_succ, List.tail_cons, S2, ty3, in3, ty4, bo4, ty5, in5, ty22, sl22, ty24, sl24, ty26, st26, ty28, st28, ty32, in32, ty33, in33, ty35, st35, ty47, sl47, ty49, sl49, ar49, ty68, ty73]
    refine AStepX.arrayAddr (k := 1) rfl ar49 ty5 rfl rfl (by omega) (by show (1 : Int) < ((2 : Nat) : Int); omega) ?_
    have w1 : IntKind.i64.wrap ((min c d : Nat) : Int) = ((min c d : Nat) : Int) := wrap_in (by omega) (by omega)
    have w2 : IntKind.i64.wrap (1 + ((min c d : Nat) : Int)) = 1 + ((min c d : Nat) : Int) := wrap_in (by omega) (by omega)
    by_cases hq : ((M.take (1 + min c d)).length : Int) = 1 + ((min c d : Nat) : Int)
    · simp (maxSteps := 400000) (dsimp := false) only [hc, hd, hmin, w1, w2, U_len, hq, axs, AThen, ABlock, dstsOk, AStep, callsF, AWant, aop, AS.ev, AS.put, upd, AS.bound, abin, aint, aload, astore, cellsAt, AV.cells, alen, elems, AV.int?, FPost, aresL, ares1, pack, afill, splice, Value.oneCell', Nat.reduceLT, Nat.reduceLeDiff, Nat.reduceEqDiff, Nat.reduceAdd, Nat.reduceMul, Nat.reduceSub, Nat.reduceBEq, Int.reduceLE, Int.reduceLT, Int.reduceToNat, Int.reduceNeg, Int.reduceEq, AAll, neS, AOpsD_cons_solo, List.contains_cons, List.contains_nil, Bool.or_false, Bool.or_true, Bool.false_or, Bool.true_or, pickB_nil, pickB_zero, pickB_succ, List.eraseIdx_zero, List.eraseIdx_cons_succ, List.tail_cons, S2, ty3, in3, ty4, bo4, ty5, in5, ty22, sl22, ty24, sl24, ty26, st26, ty28, st28, ty32, in32, ty33, in33, ty35, st35, ty47, sl47, ty49, sl49, ar49, ty68, ty73]
      exact ⟨_, rfl, Sees.sc⟩
    · have hq2 : ((M.take (1 + min c d)).length : Int) = (M.length : Int) := by omega
      simp (maxSteps := 400000) (dsimp := false) only [hc, hd, hmin, w1, w2, U_len, hq, axs, AThen, ABlock, dstsOk, AStep, callsF, AWant, aop, AS.ev, AS.put, upd, AS.bound, abin, aint, aload, astore, cellsAt, AV.cells, alen, elems, AV.int?, FPost, aresL, ares1, pack, afill, splice, Value.oneCell', Nat.reduceLT, Nat.reduceLeDiff, Nat.reduceEqDiff, Nat.reduceAdd, Nat.reduceMul, Nat.reduceSub, Nat.reduceBEq, Int.reduceLE, Int.reduceLT, Int.reduceToNat, Int.reduceNeg, Int.reduceEq, AAll, neS, AOpsD_cons_solo, List.contains_cons, List.contains_nil, Bool.or_false, Bool.or_true, Bool.false_or, Bool.true_or, pickB_nil, pickB_zero, pickB_succ, List.eraseIdx_zero, List.eraseIdx_cons_succ, List.tail_cons, S2, ty3, in3, ty4, bo4, ty5, in5, ty22, sl22, ty24, sl24, ty26, st26, ty28, st28, ty32, in32, ty33, in33, ty35, st35, ty47, sl47, ty49, sl49, ar49, ty68, ty73]
      rw [hq2]
      simp (maxSteps := 400000) (dsimp := false) only [axs, AThen, ABlock, dstsOk, AStep, callsF, AWant, aop, AS.ev, AS.put, upd, AS.bound, abin, aint, aload, astore, cellsAt, AV.cells, alen, elems, AV.int?, FPost, aresL, ares1, pack, afill, splice, Value.oneCell', Nat.reduceLT, Nat.reduceLeDiff, Nat.reduceEqDiff, Nat.reduceAdd, Nat.reduceMul, Nat.reduceSub, Nat.reduceBEq, Int.reduceLE, Int.reduceLT, Int.reduceToNat, Int.reduceNeg, Int.reduceEq, AAll, neS, AOpsD_cons_solo, List.contains_cons, List.contains_nil, Bool.or_false, Bool.or_true, Bool.false_or, Bool.true_or, pickB_nil, pickB_zero, pickB_succ, List.eraseIdx_zero, List.eraseIdx_cons_succ, List.tail_cons, S2, ty3, in3, ty4, bo4, ty5, in5, ty22, sl22, ty24, sl24, ty26, st26, ty28, st28, ty32, in32, ty33, in33, ty35, st35, ty47, sl47, ty49, sl49, ar49, ty68, ty73]
      exact ⟨_, rfl, Sees.sc⟩
  · have h' : (l.length : Int) > 60 := by omega
    simp (maxSteps := 400000) (dsimp := false) only [h', axs, AThen, ABlock, dstsOk, AStep, callsF, AWant, aop, AS.ev, AS.put, upd, AS.bound, abin, aint, aload, astore, cellsAt, AV.cells, alen, elems, AV.int?, FPost, aresL, ares1, pack, afill, splice, Value.oneCell', Nat.reduceLT, Nat.reduceLeDiff, Nat.reduceEqDiff, Nat.reduceAdd, Nat.reduceMul, Nat.reduceSub, Nat.reduceBEq, Int.reduceLE, Int.reduceLT, Int.reduceToNat, Int.reduceNeg, Int.reduceEq, AAll, neS, AOpsD_cons_solo, List.contains_cons, List.contains_nil, Bool.or_false, Bool.or_true, Bool.false_or, Bool.true_or, pickB_nil, pickB_zero, pickB_succ, List.eraseIdx_zero, List.eraseIdx_cons_succ, List.tail_cons, S2, ty3, in3, ty4, bo4, ty5, in5, ty22, sl22, ty24, sl24, ty26, st26, ty28, st28, ty32, in32, ty33, in33, ty35, st35, ty47, sl47, ty49, sl49, ar49, ty68, ty73]
    exact ⟨_, rfl, Sees.sc⟩
end Go.Al
