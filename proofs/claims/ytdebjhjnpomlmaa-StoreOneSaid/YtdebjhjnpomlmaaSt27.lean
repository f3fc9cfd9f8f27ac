/- Keys in queues: no key is twice in all queues together, and these are as many as are told. Conditions: the numbers fit their kinds. -/
import Derived.Test.YtdebjhjnpomlmaaStG
set_option linter.unusedVariables false
set_option linter.unusedSimpArgs false
set_option maxRecDepth 20000
set_option maxHeartbeats 6400000
-- axs, AThen, ABlock, dstsOk, AStep, callsF, AWant, aop, AS.ev, AS.put, upd, AS.bound, abin, aint, aload, astore, cellsAt, AV.cells, alen, elems, AV.int?, FPost, aresL, ares1, pack, afill, splice, Value.oneCell', Nat.reduceLT, Nat.reduceLeDiff, Nat.reduceEqDiff, Nat.reduceAdd, Nat.reduceMul, Nat.reduceSub, Nat.reduceBEq, Int.reduceLE, Int.reduceLT, Int.reduceToNat, Int.reduceNeg, Int.reduceEq, axt, ftK, ft3, pickP, AScope, AAll, pickQ, ftQ, inHeap, SAct.cells, Nd.cells, getF, tys: SAct.cells, Nd.cells, getF
-- NOIDS: noIdsE_EN, noIdsE_LE, noIdsE_TL, noIdsE_U, noIdsE_SA
-- LENS: EN_len, LE_len, TL_len, U_len, SA_len
namespace Go.Al
open Go.Proofs
def allK (x : SS) : Nat → List Int
  | 0 => []
  | q + 1 => allK x q ++ keysQ x q
section
variable {x : SS}
theorem keyQ_tag (h : SInv x.R x.rows x.ls x.T) {q : Nat} {k : Int} (hk : k ∈ keysQ x q) : (raAt x.R (nodeI x.T k)).tag = (q : Int) + 1 ∧ nodeI x.T k ≠ 0 ∧ Key k := by
  obtain ⟨i, hi, rfl⟩ := List.mem_map.1 hk
  rcases allL_get (ls := x.ls) (t := (q : Int)) with e | ⟨_, e⟩
  · rw [e] at hi; cases hi
  · have hlv := h.inv.live _ _ e i hi
    rcases h.node (raAt x.R i).key with ⟨n1, n2, n3, _⟩ | ⟨_, _, n3⟩
    · have hu := h.uniq n1 hlv n2
      obtain ⟨p, hp⟩ := List.mem_iff_getElem?.1 hi
      have := (h.inv.node _ _ e p i hp).1
      exact ⟨by rw [hu, this]; omega, n3, h.ok.keys _ ((h.tab _ i).2 ⟨hlv, rfl⟩)⟩
    · exact absurd rfl (n3 i hlv)
theorem keysQ_nodup (h : SInv x.R x.rows x.ls x.T) (q : Int) : (keysQ x q).Nodup := by
  unfold keysQ
  rcases allL_get (ls := x.ls) (t := q) with e | ⟨_, e⟩
  · rw [e]; exact List.nodup_nil
  · have h1 := h.inv.one _ _ e
    have hlv := h.inv.live _ _ e
    refine List.pairwise_map.2 (h1.imp_of_mem fun {a b} ha hb hne e => hne (h.uniq (hlv a ha) (hlv b hb) e))
theorem allK_tag (h : SInv x.R x.rows x.ls x.T) : ∀ (q : Nat), ∀ k ∈ allK x q, (raAt x.R (nodeI x.T k)).tag ≤ (q : Int)
  | 0, k, hk => by cases hk
  | q + 1, k, hk => by
    rcases List.mem_append.1 hk with h1 | h1
    · have := allK_tag h q k h1; omega
    · have := (keyQ_tag h h1).1; omega
theorem allK_nodup (h : SInv x.R x.rows x.ls x.T) : ∀ (q : Nat), (allK x q).Nodup
  | 0 => List.nodup_nil
  | q + 1 => by
    refine List.nodup_append.2 ⟨allK_nodup h q, keysQ_nodup h q, fun a ha b hb e => ?_⟩
    have h1 := allK_tag h q a ha
    have h2 := (keyQ_tag h hb).1
    rw [e] at h1
    omega
theorem allK_len (x : SS) : ∀ (q : Nat), (allK x q).length = tot (x.ls.take q)
  | 0 => rfl
  | q + 1 => by
    have e : allL x.ls q = x.ls.getD q [] := by unfold allL; rw [if_pos (by omega)]; rfl
    show (allK x q ++ keysQ x q).length = _
    rw [List.length_append, allK_len x q, keysQ, List.length_map, e, List.take_add_one, List.getD_eq_getElem?_getD]
    unfold tot
    rw [List.map_append, List.sum_append]
    cases x.ls[q]? <;> simp
theorem allK_mono (x : SS) (q : Nat) : (allK x q).length ≤ tot x.ls := by
  rw [allK_len]
  have : tot x.ls = tot (x.ls.take q) + tot (x.ls.drop q) := by
    unfold tot
    rw [← List.sum_append, ← List.map_append, List.take_append_drop]
  omega
theorem allK_all (x : SS) {q : Nat} (h : x.ls.length ≤ q) : (allK x q).length = tot x.ls := by rw [allK_len, List.take_of_length_le h]
theorem stDo_len (h : SInv x.R x.rows x.ls x.T) (a : SAct) : (stDo x a).1.ls.length = x.ls.length := by
  have l1 : ∀ q k, (psfS x q k).ls.length = x.ls.length := fun q k => by unfold psfS; split; exact pushL_len _ _ _ _; rfl
  have l2 : ∀ q k, (psbS x q k).ls.length = x.ls.length := fun q k => by unfold psbS; split; exact pushL_len _ _ _ _; rfl
  have l3 : ∀ q k, (movS x q k).ls.length = x.ls.length := fun q k => by unfold movS; split; rfl; exact (h.inv.mvL _ _).2
  have l4 : ∀ k, (remS x k).ls.length = x.ls.length := fun k => by unfold remS; split; rfl; exact (h.inv.offL _).2
  have l5 : ∀ k g, (setS x k g).ls.length = x.ls.length := fun k g => by unfold setS; split <;> rfl
  unfold stDo
  repeat' split
  · exact l1 _ _
  · exact l2 _ _
  · exact l3 _ _
  · exact l4 _
  · exact l5 _ _
  · exact l5 _ _
end
theorem lsK4 {c : Int} (h0 : 0 ≤ c) : lsK (1 + c.tmod 4) ≤ 4 := by
  have hc4 : 0 ≤ c.tmod 4 ∧ c.tmod 4 < 4 := by rw [Int.tmod_eq_emod_of_nonneg h0]; omega
  have := lsK_rng (1 + c.tmod 4)
  have h1 := this.1
  split at h1 <;> split at h1 <;> omega
theorem stRun_len (c : Int) (l : List SAct) (hf : ∀ a ∈ l, a.Fits) (hl : l.length ≤ 900) : ∀ (p : Nat), p ≤ l.length → (stRun c (l.take p)).1.ls.length = lsK (1 + c.tmod 4)
  | 0, _ => by
    show (newS (1 + c.tmod 4)).ls.length = _
    rw [← ents_len, ents_new, List.length_replicate]
  | p + 1, h => by
    have ih := stRun_len c l hf hl p (by omega)
    obtain ⟨b, _⟩ := stRun_ok c (l.take p) (fun a ha => hf a (List.mem_of_mem_take ha)) (by rw [List.length_take]; omega)
    obtain ⟨y, hy, _, _, _, hT, _⟩ := idx (l := l) (p := p) (by omega) (by omega)
    rw [hT, stRun_snoc, ← ih]
    exact stDo_len b.i y
theorem Live.keeps {te z : Nat} {H H' : AH} {n n' : Nat} {es : List (List AV)} {v : AV} (h : Live te z H es v) (hlt : ∀ id z o m, v = .sl id z o m → id < n) (k : Keeps H n H' n') : Live te z H' es v := by
  rcases h with ⟨h1, h2⟩ | ⟨id, h1, h2⟩
  · exact .inl ⟨h1, h2⟩
  · exact .inr ⟨id, h1, (k.2 id (hlt id _ _ _ h1)).trans h2⟩
theorem Live.lt {te z : Nat} {st : AS} {es : List (List AV)} {v : AV} (h : Live te z st.H es v) (hb : Al.Below st) : ∀ id z o m, v = .sl id z o m → id < st.n := by
  intro id z o m e
  rcases h.cases hb with ⟨_, h1⟩ | ⟨id', h1, _, h2, _⟩
  · rw [h1] at e; cases e
  · rw [h2] at e; cases e; exact h1
section
variable {H H' H1 H2 : AH} {n n' n1 n2 S L r a s ta ts s1 ts1 : Nat} {fv fv1 : AV} {x x' : SS}
theorem cStKeys2 (h : StL H n S L r a s ta ts fv x) (o : SOk x) (q : Int) :
    HCalls Try.prog 21 [.ptr S 4 0 0, .sc (.int .i64 q)] H n fun v H' n' => Live 34 1 H' (U (keysQ x q)) v ∧ (∀ id z o m, v = .sl id z o m → n ≤ id) ∧ Keeps H n H' n' := by
  have hS := h.hS
  have ok := o.i.inv.ok
  have ca := cLsAll h.l o.i.inv (by have := o.q; omega) (by have := o.ev; omega) q
  have hln := o.all_len q
  have hlv := fun i => o.all_live (q := q) (i := i)
  unfold keysQ
  generalize allL x.ls q = xs at *
  refine HCalls.walk Try.func21 rfl rfl Try.ntmps21 Try.results21 (by simp) ?_; simp (maxSteps := 400000) (dsimp := false) only [hS, axs, AThen, ABlock, dstsOk, AStep, callsF, AWant, aop, AS.ev, AS.put, upd, AS.bound, abin, aint, aload, astore, cellsAt, AV.cells, alen, elems, AV.int?, FPost, aresL, ares1, pack, afill, splice, Value.oneCell', Nat.reduceLT, Nat.reduceLeDiff, Nat.reduceEqDiff, Nat.reduceAdd, Nat.reduceMul, Nat.reduceSub, Nat.reduceBEq, Int.reduceLE, Int.reduceLT, Int.reduceToNat, Int.reduceNeg, Int.reduceEq, axt, ftK, ft3, pickP, AScope, AAll, pickQ, ftQ, inHeap, SAct.cells, Nd.cells, getF, tys]
  refine ACallK.heap _ rfl (ca) ?_; rintro r' H' n' ⟨rfl, eH, en⟩; obtain rfl := eH.symm; obtain rfl := en.symm; clear eH en; simp (maxSteps := 400000) (dsimp := false) only [I32_len, axs, AThen, ABlock, dstsOk, AStep, callsF, AWant, aop, AS.ev, AS.put, upd, AS.bound, abin, aint, aload, astore, cellsAt, AV.cells, alen, elems, AV.int?, FPost, aresL, ares1, pack, afill, splice, Value.oneCell', Nat.reduceLT, Nat.reduceLeDiff, Nat.reduceEqDiff, Nat.reduceAdd, Nat.reduceMul, Nat.reduceSub, Nat.reduceBEq, Int.reduceLE, Int.reduceLT, Int.reduceToNat, Int.reduceNeg, Int.reduceEq, axt, ftK, ft3, pickP, AScope, AAll, pickQ, ftQ, inHeap, SAct.cells, Nd.cells, getF, tys]
  refine ALoop.upto xs.length (fun p t => t.t 0 = .ptr S 4 0 0 ∧ t.t 16 = .lst 1 (I32 xs) ∧ t.t 17 = .sc (.int .i64 xs.length) ∧ t.t 18 = .sc (.int .i64 p) ∧ Live 34 1 t.H (U ((xs.take p).map fun i => (raAt x.R i).key)) (t.t 5) ∧ (∀ id z o m, t.t 5 = .sl id z o m → n ≤ id) ∧ Keeps H n t.H t.n) ⟨rfl, rfl, rfl, rfl, Live.nil, (fun id z o m e => (nomatch e)), Keeps.refl _ _⟩ ?_
  rintro p st hp hb ⟨e0, e16, e17, e18, hv, hid, kp⟩
  rcases Nat.lt_or_ge p xs.length with hlt | hge
  · obtain ⟨i, hi, hp0, hpl, hw, hT, hD⟩ := idx hlt (by omega)
    have hg := I32_get hi
    have h2 := h.keeps kp
    have hS2 := h2.hS
    have hi32 := o.i32 (hlv i (List.mem_of_getElem? hi))
    have cr := cRAt h2.l.ar ok i hi32
    have hU : U ((xs.take (p + 1)).map fun i => (raAt x.R i).key) = U ((xs.take p).map fun i => (raAt x.R i).key) ++ [[.sc (.int .u64 (raAt x.R i).key)]] := by rw [hT, List.map_append, List.map_cons, List.map_nil, U_snoc]
    rw [hU]
    have hql : ((xs.take p).map fun i => (raAt x.R i).key).length = p := by rw [List.length_map, List.length_take]; omega
    generalize (xs.take p).map (fun i => (raAt x.R i).key) = qs at *
    rcases hv.cases hb with ⟨h7, h8⟩ | ⟨id, hlt2, hne, h7, h8⟩
    · have : qs = [] := by simpa [U] using h7
      subst this
      simp (maxSteps := 400000) (dsimp := false) only [e0, e16, e17, e18, hg, hp0, hpl, I32_len, hw, hS2, axs, AThen, ABlock, dstsOk, AStep, callsF, AWant, aop, AS.ev, AS.put, upd, AS.bound, abin, aint, aload, astore, cellsAt, AV.cells, alen, elems, AV.int?, FPost, aresL, ares1, pack, afill, splice, Value.oneCell', Nat.reduceLT, Nat.reduceLeDiff, Nat.reduceEqDiff, Nat.reduceAdd, Nat.reduceMul, Nat.reduceSub, Nat.reduceBEq, Int.reduceLE, Int.reduceLT, Int.reduceToNat, Int.reduceNeg, Int.reduceEq, axt, ftK, ft3, pickP, AScope, AAll, pickQ, ftQ, inHeap, SAct.cells, Nd.cells, getF, tys]
      refine ACallK.heap _ rfl (cr) ?_; rintro r' H' n' ⟨rfl, eH, en⟩; obtain rfl := eH.symm; obtain rfl := en.symm; clear eH en; simp (maxSteps := 400000) (dsimp := false) only [e0, e16, e17, e18, hw, h7, h8, axs, AThen, ABlock, dstsOk, AStep, callsF, AWant, aop, AS.ev, AS.put, upd, AS.bound, abin, aint, aload, astore, cellsAt, AV.cells, alen, elems, AV.int?, FPost, aresL, ares1, pack, afill, splice, Value.oneCell', Nat.reduceLT, Nat.reduceLeDiff, Nat.reduceEqDiff, Nat.reduceAdd, Nat.reduceMul, Nat.reduceSub, Nat.reduceBEq, Int.reduceLE, Int.reduceLT, Int.reduceToNat, Int.reduceNeg, Int.reduceEq, axt, ftK, ft3, pickP, AScope, AAll, pickQ, ftQ, inHeap, SAct.cells, Nd.cells, getF, tys]
      exact ⟨hlt, Live.mk (upd_same _ _ _) rfl, (fun id z o m e => by cases e; have := kp.1; omega), kp.upd.upd.upd⟩
    · have b1 : (qs.length + 1) * 8 ≤ 140737488355328 := by omega
      have b2 : qs.length + 1 ≤ 1099511627776 := by omega
      have ne2 : ¬ id = st.n + 1 := by omega
      rw [U_len] at h7
      simp (maxSteps := 400000) (dsimp := false) only [e0, e16, e17, e18, hg, hp0, hpl, I32_len, hw, hS2, axs, AThen, ABlock, dstsOk, AStep, callsF, AWant, aop, AS.ev, AS.put, upd, AS.bound, abin, aint, aload, astore, cellsAt, AV.cells, alen, elems, AV.int?, FPost, aresL, ares1, pack, afill, splice, Value.oneCell', Nat.reduceLT, Nat.reduceLeDiff, Nat.reduceEqDiff, Nat.reduceAdd, Nat.reduceMul, Nat.reduceSub, Nat.reduceBEq, Int.reduceLE, Int.reduceLT, Int.reduceToNat, Int.reduceNeg, Int.reduceEq, axt, ftK, ft3, pickP, AScope, AAll, pickQ, ftQ, inHeap, SAct.cells, Nd.cells, getF, tys]
      refine ACallK.heap _ rfl (cr) ?_; rintro r' H' n' ⟨rfl, eH, en⟩; obtain rfl := eH.symm; obtain rfl := en.symm; clear eH en; simp (maxSteps := 400000) (dsimp := false) only [e0, e16, e17, e18, hw, h7, h8, hne, ne2, b1, b2, U_len, axs, AThen, ABlock, dstsOk, AStep, callsF, AWant, aop, AS.ev, AS.put, upd, AS.bound, abin, aint, aload, astore, cellsAt, AV.cells, alen, elems, AV.int?, FPost, aresL, ares1, pack, afill, splice, Value.oneCell', Nat.reduceLT, Nat.reduceLeDiff, Nat.reduceEqDiff, Nat.reduceAdd, Nat.reduceMul, Nat.reduceSub, Nat.reduceBEq, Int.reduceLE, Int.reduceLT, Int.reduceToNat, Int.reduceNeg, Int.reduceEq, axt, ftK, ft3, pickP, AScope, AAll, pickQ, ftQ, inHeap, SAct.cells, Nd.cells, getF, tys]
      have hid2 := hid _ _ _ _ h7
      exact ⟨hlt, Live.mk (upd_same _ _ _) (by simp [U_len]), (fun id z o m e => by cases e; have := kp.1; omega), (kp.upd.upd.put hid2).upd⟩
  · have hpl : ¬ (p : Int) < xs.length := by omega
    rw [List.take_of_length_le hge] at hv
    simp (maxSteps := 400000) (dsimp := false) only [e0, e16, e17, e18, hpl, axs, AThen, ABlock, dstsOk, AStep, callsF, AWant, aop, AS.ev, AS.put, upd, AS.bound, abin, aint, aload, astore, cellsAt, AV.cells, alen, elems, AV.int?, FPost, aresL, ares1, pack, afill, splice, Value.oneCell', Nat.reduceLT, Nat.reduceLeDiff, Nat.reduceEqDiff, Nat.reduceAdd, Nat.reduceMul, Nat.reduceSub, Nat.reduceBEq, Int.reduceLE, Int.reduceLT, Int.reduceToNat, Int.reduceNeg, Int.reduceEq, axt, ftK, ft3, pickP, AScope, AAll, pickQ, ftQ, inHeap, SAct.cells, Nd.cells, getF, tys]
    exact ⟨_, rfl, hv, hid, kp⟩
end
theorem law_StoreOne (c : Int) (w : (Lit.int .u8 c).wf = true) (e : List (List Value)) (f : ∀ x ∈ e, FitK [some .u8, some .i64, some .u64, some .u64, some .i64] x) : PCalls Try.prog 5 [.sc (.int .u8 c), .lst 5 (e.map fun e => e.map .sc)] (.sc (.bool true)) := by
  obtain ⟨l, hl, hf, _⟩ := rows_SA f
  obtain ⟨h0, h1⟩ := wfu8' w
  rw [hl]
  refine PCalls.intro2 Try.func5 rfl rfl Try.ntmps5 Try.results5 (by simp) fun n => ?_; simp (maxSteps := 400000) (dsimp := false) only [axs, AThen, ABlock, dstsOk, AStep, callsF, AWant, aop, AS.ev, AS.put, upd, AS.bound, abin, aint, aload, astore, cellsAt, AV.cells, alen, elems, AV.int?, FPost, aresL, ares1, pack, afill, splice, Value.oneCell', Nat.reduceLT, Nat.reduceLeDiff, Nat.reduceEqDiff, Nat.reduceAdd, Nat.reduceMul, Nat.reduceSub, Nat.reduceBEq, Int.reduceLE, Int.reduceLT, Int.reduceToNat, Int.reduceNeg, Int.reduceEq, axt, ftK, ft3, pickP, AScope, AAll, pickQ, ftQ, inHeap, SAct.cells, Nd.cells, getF, tys]
  refine ACallK.strict rfl (awake06) (by simp only [SeesL, SA_len, axs, axt, AS.ev, AS.put, upd, inHeap, Nat.reduceLT, Nat.reduceEqDiff, Nat.reduceAdd, Nat.reduceBEq, SAct.cells, Nd.cells, getF]; repeat' (first | exact True.intro | exact Sees.sc | exact Sees.none | ((with_reducible refine Sees.same ?_) <;> simp [noIds, noIdsL, noIdsE, noIdsE_U, noIdsE_UU, noIdsE_EN, noIdsE_LE, noIdsE_TL, noIdsE_U, noIdsE_SA] <;> fail) | (refine Live.sees ?_ ?_ <;> first | assumption | (simp [noIdsE_U, noIdsE_UU, noIdsE_EN, noIdsE_LE, noIdsE_TL, noIdsE_U, noIdsE_SA] <;> fail)) | (refine Sees.obj ?_ ?_ ?_ <;> first | exact ⟨_, _, by assumption, rfl⟩ | (simp [U_len, UU_len, EN_len, LE_len, TL_len, U_len, SA_len] <;> fail) | (simp [noIdsE_U, noIdsE_UU, noIdsE_EN, noIdsE_LE, noIdsE_TL, noIdsE_U, noIdsE_SA] <;> fail) | (simp [U, UU, upd] <;> fail) | (simp [U, UU, upd, neS, *] <;> fail)) | (refine Sees.of_seen 3 ?_ <;> simp [seen, upd, noIdsE, noIdsL, noIds, U, UU, Nat.add_assoc] <;> fail) | refine Sees.agg ?_ | refine And.intro ?_ ?_ | simp only [SeesL])) ?_; simp (maxSteps := 400000) (dsimp := false) only [SA_len, axs, AThen, ABlock, dstsOk, AStep, callsF, AWant, aop, AS.ev, AS.put, upd, AS.bound, abin, aint, aload, astore, cellsAt, AV.cells, alen, elems, AV.int?, FPost, aresL, ares1, pack, afill, splice, Value.oneCell', Nat.reduceLT, Nat.reduceLeDiff, Nat.reduceEqDiff, Nat.reduceAdd, Nat.reduceMul, Nat.reduceSub, Nat.reduceBEq, Int.reduceLE, Int.reduceLT, Int.reduceToNat, Int.reduceNeg, Int.reduceEq, axt, ftK, ft3, pickP, AScope, AAll, pickQ, ftQ, inHeap, SAct.cells, Nd.cells, getF, tys]
  by_cases h : l.length ≤ 50
  · have h' : ¬ (l.length : Int) > 50 := by omega
    simp (maxSteps := 400000) (dsimp := false) only [h', axs, AThen, ABlock, dstsOk, AStep, callsF, AWant, aop, AS.ev, AS.put, upd, AS.bound, abin, aint, aload, astore, cellsAt, AV.cells, alen, elems, AV.int?, FPost, aresL, ares1, pack, afill, splice, Value.oneCell', Nat.reduceLT, Nat.reduceLeDiff, Nat.reduceEqDiff, Nat.reduceAdd, Nat.reduceMul, Nat.reduceSub, Nat.reduceBEq, Int.reduceLE, Int.reduceLT, Int.reduceToNat, Int.reduceNeg, Int.reduceEq, axt, ftK, ft3, pickP, AScope, AAll, pickQ, ftQ, inHeap, SAct.cells, Nd.cells, getF, tys]
    refine ACallK.heap _ rfl (cRun c h0 h1 l hf h _ _) ?_
    rintro v H1 n1 ⟨S, L, r, a, s, ta, ts, fv, rfl, hst, hown, kp⟩
    clear kp hown
    obtain ⟨b, hmo, tw⟩ := stRun_ok c l hf (by omega)
    have hq4 : (stRun c l).1.ls.length ≤ 4 := by
      have := stRun_len c l hf (by omega) l.length (Nat.le_refl _)
      rw [List.take_of_length_le (Nat.le_refl _)] at this
      rw [this]; exact lsK4 h0
    have o := b.ok (by omega)
    have h50 : tot (stRun c l).1.ls ≤ 50 := by have := b.le; omega
    have look : ∀ (H : AH) (n : Nat), n1 ≤ n → (∀ j, j < n1 → H j = H1 j) → StL H n S L r a s ta ts fv (stRun c l).1 := fun H n hn hk => hst.at hn fun j hj => hk j (hst.own_lt hj)
    have hcn := b.cn
    have hi := b.i
    generalize (stRun c l).1 = x at *
    generalize (stRun c l).2 = T at *
    unfold SV at *
    simp (maxSteps := 400000) (dsimp := false) only [axs, AThen, ABlock, dstsOk, AStep, callsF, AWant, aop, AS.ev, AS.put, upd, AS.bound, abin, aint, aload, astore, cellsAt, AV.cells, alen, elems, AV.int?, FPost, aresL, ares1, pack, afill, splice, Value.oneCell', Nat.reduceLT, Nat.reduceLeDiff, Nat.reduceEqDiff, Nat.reduceAdd, Nat.reduceMul, Nat.reduceSub, Nat.reduceBEq, Int.reduceLE, Int.reduceLT, Int.reduceToNat, Int.reduceNeg, Int.reduceEq, axt, ftK, ft3, pickP, AScope, AAll, pickQ, ftQ, inHeap, SAct.cells, Nd.cells, getF, tys]
    refine ALoop.upto 4 (fun q t => t.t 5 = .sc (.bool true) ∧ t.t 6 = .ptr S 4 0 0 ∧ t.t 8 = .sc (.bool true) ∧ t.t 10 = .sc (.int .i64 q) ∧ Live 34 1 t.H (U (allK x q)) (t.t 9) ∧ (∀ id z o m, t.t 9 = .sl id z o m → n1 ≤ id) ∧ Keeps H1 n1 t.H t.n) ⟨rfl, rfl, rfl, rfl, Live.nil, (fun id z o m e => (nomatch e)), (Keeps.refl _ _).upd.put (Nat.le_refl _)⟩ ?_
    rintro q st hq hb ⟨e5, e6, e8, e10, hv, hid, kp⟩
    have hst2 := look st.H st.n kp.1 kp.2
    rcases Nat.lt_or_ge q 4 with hlt | hge
    · have hql : (q : Int) < 4 := by omega
      have wq : IntKind.i64.wrap ((q : Int) + 1) = ((q + 1 : Nat) : Int) := by rw [IntWalk.i64_in _ ⟨by omega, by omega⟩]; omega
      have ck := cStKeys2 hst2 o (q : Int)
      have hks : (keysQ x q).length ≤ 1000 := by unfold keysQ; rw [List.length_map]; exact o.all_len _
      have hkq := fun k => keyQ_tag hi (q := q) (k := k)
      have hall : (allK x (q + 1)).length ≤ 50 := Nat.le_trans (allK_mono x (q + 1)) h50
      have hAs : allK x (q + 1) = allK x q ++ keysQ x q := rfl
      rw [hAs] at hall
      simp (maxSteps := 400000) (dsimp := false) only [e5, e6, e8, e10, hql, axs, AThen, ABlock, dstsOk, AStep, callsF, AWant, aop, AS.ev, AS.put, upd, AS.bound, abin, aint, aload, astore, cellsAt, AV.cells, alen, elems, AV.int?, FPost, aresL, ares1, pack, afill, splice, Value.oneCell', Nat.reduceLT, Nat.reduceLeDiff, Nat.reduceEqDiff, Nat.reduceAdd, Nat.reduceMul, Nat.reduceSub, Nat.reduceBEq, Int.reduceLE, Int.reduceLT, Int.reduceToNat, Int.reduceNeg, Int.reduceEq, axt, ftK, ft3, pickP, AScope, AAll, pickQ, ftQ, inHeap, SAct.cells, Nd.cells, getF, tys]
      refine ACallK.heap _ rfl ck ?_
      rintro v H2 n2 ⟨lv, idv, kp2⟩
      have kp2 : Keeps st.H st.n H2 n2 := kp2
      have lv : Live 34 1 H2 (U (keysQ x q)) v := lv
      have idv : ∀ id z o m, v = .sl id z o m → st.n ≤ id := idv
      have hv2 := hv.keeps (hv.lt hb) kp2
      have apart0 : ∀ i z o m i' z' o' m', st.t 9 = .sl i z o m → v = .sl i' z' o' m' → i ≠ i' := fun i z o m i' z' o' m' ha hb' => by
        have := hv.lt hb _ _ _ _ ha
        have := idv _ _ _ _ hb'
        omega
      rw [hAs]
      clear hAs
      generalize keysQ x q = ks at *
      generalize allK x q = al at *
      simp (maxSteps := 400000) (dsimp := false) only [e5, e6, e8, e10, axs, AThen, ABlock, dstsOk, AStep, callsF, AWant, aop, AS.ev, AS.put, upd, AS.bound, abin, aint, aload, astore, cellsAt, AV.cells, alen, elems, AV.int?, FPost, aresL, ares1, pack, afill, splice, Value.oneCell', Nat.reduceLT, Nat.reduceLeDiff, Nat.reduceEqDiff, Nat.reduceAdd, Nat.reduceMul, Nat.reduceSub, Nat.reduceBEq, Int.reduceLE, Int.reduceLT, Int.reduceToNat, Int.reduceNeg, Int.reduceEq, axt, ftK, ft3, pickP, AScope, AAll, pickQ, ftQ, inHeap, SAct.cells, Nd.cells, getF, tys]
      refine ALoop.upto ks.length (fun i t => t.t 5 = .sc (.bool true) ∧ t.t 6 = .ptr S 4 0 0 ∧ t.t 8 = .sc (.bool true) ∧ t.t 10 = .sc (.int .i64 q) ∧ t.t 12 = .sc (.int .i64 i) ∧ Live 34 1 t.H (U ks) (t.t 11) ∧ Live 34 1 t.H (U (al ++ ks.take i)) (t.t 9) ∧ (∀ i z o m i' z' o' m', t.t 9 = .sl i z o m → t.t 11 = .sl i' z' o' m' → i ≠ i') ∧ (∀ id z o m, t.t 9 = .sl id z o m → n1 ≤ id) ∧ Keeps H1 n1 t.H t.n) ⟨e5, e6, e8, e10, rfl, lv, (by rw [List.take_zero, List.append_nil]; exact hv2), apart0, hid, kp.trans kp2⟩ ?_
      rintro i st2 hip hb2 ⟨f5, f6, f8, f10, f12, lk, la, ap, hid2, kp3⟩
      have hst3 := look st2.H st2.n kp3.1 kp3.2
      rcases Nat.lt_or_ge i ks.length with ilt | ige
      · obtain ⟨k, hk, i0, ipl, iw, hT, hD⟩ := idx ilt (by omega)
        have hg := U_get hk
        obtain ⟨k1, k2, k3⟩ := hkq k (List.mem_of_getElem? hk)
        have hU : U (al ++ ks.take (i + 1)) = U (al ++ ks.take i) ++ [[.sc (.int .u64 k)]] := by rw [hT, ← List.append_assoc, U_snoc]
        have hql2 : (al ++ ks.take i).length ≤ 50 := by
          have : (al ++ ks).length ≤ 50 := hall
          rw [List.length_append] at this ⊢
          rw [List.length_take]; omega
        rw [hU]
        have cf := (cStFind hst3 o k3).forget rfl
        rw [if_neg k2, k1, decide_eq_false k2, Bool.not_false, show (q : Int) + 1 - 1 = (q : Int) by omega] at cf
        clear hU hall
        generalize al ++ ks.take i = qs at *
        rcases lk.cases hb2 with ⟨g7, g8⟩ | ⟨id2, jlt, jne, g7, g8⟩
        · exfalso
          have : ks = [] := by simpa [U] using g7
          rw [this] at ilt
          exact absurd ilt (Nat.not_lt_zero _)
        rw [U_len] at g7
        rcases la.cases hb2 with ⟨h7, h8⟩ | ⟨id, hlt2, hne, h7, h8⟩
        · have : qs = [] := by simpa [U] using h7
          subst this
          simp (maxSteps := 400000) (dsimp := false) only [f5, f6, f8, f10, f12, g7, g8, hg, i0, ipl, U_len, axs, AThen, ABlock, dstsOk, AStep, callsF, AWant, aop, AS.ev, AS.put, upd, AS.bound, abin, aint, aload, astore, cellsAt, AV.cells, alen, elems, AV.int?, FPost, aresL, ares1, pack, afill, splice, Value.oneCell', Nat.reduceLT, Nat.reduceLeDiff, Nat.reduceEqDiff, Nat.reduceAdd, Nat.reduceMul, Nat.reduceSub, Nat.reduceBEq, Int.reduceLE, Int.reduceLT, Int.reduceToNat, Int.reduceNeg, Int.reduceEq, axt, ftK, ft3, pickP, AScope, AAll, pickQ, ftQ, inHeap, SAct.cells, Nd.cells, getF, tys]
          refine ACallK.heap _ rfl (cf) ?_; rintro r' H' n' ⟨rfl, eH, en⟩; obtain rfl := eH.symm; obtain rfl := en.symm; clear eH en; simp (maxSteps := 400000) (dsimp := false) only [f5, f6, f8, f10, f12, g7, g8, hg, i0, ipl, U_len, h8, iw, jne, bne_self_eq_false, axs, AThen, ABlock, dstsOk, AStep, callsF, AWant, aop, AS.ev, AS.put, upd, AS.bound, abin, aint, aload, astore, cellsAt, AV.cells, alen, elems, AV.int?, FPost, aresL, ares1, pack, afill, splice, Value.oneCell', Nat.reduceLT, Nat.reduceLeDiff, Nat.reduceEqDiff, Nat.reduceAdd, Nat.reduceMul, Nat.reduceSub, Nat.reduceBEq, Int.reduceLE, Int.reduceLT, Int.reduceToNat, Int.reduceNeg, Int.reduceEq, axt, ftK, ft3, pickP, AScope, AAll, pickQ, ftQ, inHeap, SAct.cells, Nd.cells, getF, tys]
          exact ⟨ilt, Live.mk ((upd_ne _ _ (by omega)).trans ((upd_ne _ _ (by omega)).trans g8)) (by rw [U_len]), Live.mk (upd_same _ _ _) rfl, (fun i z o m i' z' o' m' ha hb' => by cases ha; cases hb'; omega), (fun id z o m e => by cases e; have := kp3.1; omega), kp3.upd.upd⟩
        · have b1 : (qs.length + 1) * 8 ≤ 140737488355328 := by omega
          have b2 : qs.length + 1 ≤ 1099511627776 := by omega
          have ne2 : ¬ id = st2.n + 1 := by omega
          rw [U_len] at h7
          have hap := ap _ _ _ _ _ _ _ _ h7 g7
          have hap2 : ¬ id2 = id := fun e => hap e.symm
          simp (maxSteps := 400000) (dsimp := false) only [f5, f6, f8, f10, f12, g7, g8, hg, i0, ipl, U_len, axs, AThen, ABlock, dstsOk, AStep, callsF, AWant, aop, AS.ev, AS.put, upd, AS.bound, abin, aint, aload, astore, cellsAt, AV.cells, alen, elems, AV.int?, FPost, aresL, ares1, pack, afill, splice, Value.oneCell', Nat.reduceLT, Nat.reduceLeDiff, Nat.reduceEqDiff, Nat.reduceAdd, Nat.reduceMul, Nat.reduceSub, Nat.reduceBEq, Int.reduceLE, Int.reduceLT, Int.reduceToNat, Int.reduceNeg, Int.reduceEq, axt, ftK, ft3, pickP, AScope, AAll, pickQ, ftQ, inHeap, SAct.cells, Nd.cells, getF, tys]
          refine ACallK.heap _ rfl (cf) ?_; rintro r' H' n' ⟨rfl, eH, en⟩; obtain rfl := eH.symm; obtain rfl := en.symm; clear eH en; simp (maxSteps := 400000) (dsimp := false) only [f5, f6, f8, f10, f12, g7, g8, hg, i0, ipl, U_len, h7, h8, iw, jne, bne_self_eq_false, hne, ne2, b1, b2, axs, AThen, ABlock, dstsOk, AStep, callsF, AWant, aop, AS.ev, AS.put, upd, AS.bound, abin, aint, aload, astore, cellsAt, AV.cells, alen, elems, AV.int?, FPost, aresL, ares1, pack, afill, splice, Value.oneCell', Nat.reduceLT, Nat.reduceLeDiff, Nat.reduceEqDiff, Nat.reduceAdd, Nat.reduceMul, Nat.reduceSub, Nat.reduceBEq, Int.reduceLE, Int.reduceLT, Int.reduceToNat, Int.reduceNeg, Int.reduceEq, axt, ftK, ft3, pickP, AScope, AAll, pickQ, ftQ, inHeap, SAct.cells, Nd.cells, getF, tys]
          exact ⟨ilt, Live.mk ((upd_ne _ _ (by omega)).trans ((upd_ne _ _ hap2).trans ((upd_ne _ _ (by omega)).trans g8))) (by rw [U_len]), Live.mk (upd_same _ _ _) (by simp [U_len]), (fun i z o m i' z' o' m' ha hb' => by cases ha; cases hb'; omega), (fun id z o m e => by cases e; have := kp3.1; omega), (kp3.upd.put (hid2 _ _ _ _ h7)).upd⟩
      · have ipl : ¬ (i : Int) < ks.length := by omega
        rw [List.take_of_length_le ige] at la
        rcases lk.cases hb2 with ⟨g7, g8⟩ | ⟨id2, jlt, jne, g7, g8⟩
        · have : ks = [] := by simpa [U] using g7
          subst this
          rw [List.append_nil] at la
          have i0 : ¬ (i : Int) < 0 := by omega
          simp (maxSteps := 400000) (dsimp := false) only [f5, f6, f8, f10, f12, g8, i0, wq, axs, AThen, ABlock, dstsOk, AStep, callsF, AWant, aop, AS.ev, AS.put, upd, AS.bound, abin, aint, aload, astore, cellsAt, AV.cells, alen, elems, AV.int?, FPost, aresL, ares1, pack, afill, splice, Value.oneCell', Nat.reduceLT, Nat.reduceLeDiff, Nat.reduceEqDiff, Nat.reduceAdd, Nat.reduceMul, Nat.reduceSub, Nat.reduceBEq, Int.reduceLE, Int.reduceLT, Int.reduceToNat, Int.reduceNeg, Int.reduceEq, axt, ftK, ft3, pickP, AScope, AAll, pickQ, ftQ, inHeap, SAct.cells, Nd.cells, getF, tys]
          exact ⟨hlt, la, hid2, kp3⟩
        · rw [U_len] at g7
          simp (maxSteps := 400000) (dsimp := false) only [f5, f6, f8, f10, f12, g7, ipl, wq, axs, AThen, ABlock, dstsOk, AStep, callsF, AWant, aop, AS.ev, AS.put, upd, AS.bound, abin, aint, aload, astore, cellsAt, AV.cells, alen, elems, AV.int?, FPost, aresL, ares1, pack, afill, splice, Value.oneCell', Nat.reduceLT, Nat.reduceLeDiff, Nat.reduceEqDiff, Nat.reduceAdd, Nat.reduceMul, Nat.reduceSub, Nat.reduceBEq, Int.reduceLE, Int.reduceLT, Int.reduceToNat, Int.reduceNeg, Int.reduceEq, axt, ftK, ft3, pickP, AScope, AAll, pickQ, ftQ, inHeap, SAct.cells, Nd.cells, getF, tys]
          exact ⟨hlt, la, hid2, kp3⟩
    · have hql : ¬ (q : Int) < 4 := by omega
      have eq4 : q = 4 := by omega
      rw [eq4] at hv
      have hln := allK_all x hq4
      have hnd := allK_nodup hi 4
      have cT := cStTotal hst2
      rw [hcn, ← hln] at cT
      have hl50 : (allK x 4).length ≤ 50 := by omega
      clear hln
      generalize allK x 4 = al at *
      simp (maxSteps := 400000) (dsimp := false) only [e5, e6, e8, e10, hql, axs, AThen, ABlock, dstsOk, AStep, callsF, AWant, aop, AS.ev, AS.put, upd, AS.bound, abin, aint, aload, astore, cellsAt, AV.cells, alen, elems, AV.int?, FPost, aresL, ares1, pack, afill, splice, Value.oneCell', Nat.reduceLT, Nat.reduceLeDiff, Nat.reduceEqDiff, Nat.reduceAdd, Nat.reduceMul, Nat.reduceSub, Nat.reduceBEq, Int.reduceLE, Int.reduceLT, Int.reduceToNat, Int.reduceNeg, Int.reduceEq, axt, ftK, ft3, pickP, AScope, AAll, pickQ, ftQ, inHeap, SAct.cells, Nd.cells, getF, tys]
      refine ALoop.upto al.length (fun i t => t.t 5 = .sc (.bool true) ∧ t.t 6 = .ptr S 4 0 0 ∧ t.t 8 = .sc (.bool true) ∧ t.t 15 = .sc (.int .i64 i) ∧ t.t 9 = st.t 9 ∧ t.H = st.H ∧ t.n = st.n) ⟨e5, e6, e8, rfl, rfl, rfl, rfl⟩ ?_
      rintro i s1 hia hb1 ⟨g5, g6, g8, g15, g9, gH, gn⟩
      rcases Nat.lt_or_ge i al.length with ilt | ige
      · obtain ⟨a', ha', i0, ipl, iw, _, _⟩ := idx ilt (by omega)
        have hga := U_get ha'
        rcases hv.cases hb with ⟨h7, h8⟩ | ⟨id, hlt2, hne, h7, h8⟩
        · exfalso
          have : al = [] := by simpa [U] using h7
          rw [this] at ilt
          exact absurd ilt (Nat.not_lt_zero _)
        rw [U_len] at h7
        rw [h7] at g9
        simp (maxSteps := 400000) (dsimp := false) only [g5, g6, g8, g15, g9, ipl, axs, AThen, ABlock, dstsOk, AStep, callsF, AWant, aop, AS.ev, AS.put, upd, AS.bound, abin, aint, aload, astore, cellsAt, AV.cells, alen, elems, AV.int?, FPost, aresL, ares1, pack, afill, splice, Value.oneCell', Nat.reduceLT, Nat.reduceLeDiff, Nat.reduceEqDiff, Nat.reduceAdd, Nat.reduceMul, Nat.reduceSub, Nat.reduceBEq, Int.reduceLE, Int.reduceLT, Int.reduceToNat, Int.reduceNeg, Int.reduceEq, axt, ftK, ft3, pickP, AScope, AAll, pickQ, ftQ, inHeap, SAct.cells, Nd.cells, getF, tys]
        refine ALoop.upto i (fun k t => t.t 5 = .sc (.bool true) ∧ t.t 6 = .ptr S 4 0 0 ∧ t.t 8 = .sc (.bool true) ∧ t.t 15 = .sc (.int .i64 i) ∧ t.t 16 = .sc (.int .i64 k) ∧ t.t 9 = .sl id 1 0 al.length ∧ t.H = st.H ∧ t.n = st.n) ⟨g5, g6, g8, g15, rfl, g9, gH, gn⟩ ?_
        rintro k s2 hka hb2 ⟨m5, m6, m8, m15, m16, m9, mH, mn⟩
        rcases Nat.lt_or_ge k i with klt | kge
        · obtain ⟨b', hb', k0, kpl, kw, _, _⟩ := idx (l := al) (p := k) (by omega) (by omega)
          have hgb := U_get hb'
          have kil : (k : Int) < i := by omega
          have hab : ¬ a' = b' := fun e => by
            obtain ⟨j1, e1⟩ := List.getElem?_eq_some_iff.1 ha'
            obtain ⟨j2, e2⟩ := List.getElem?_eq_some_iff.1 hb'
            have := (List.pairwise_iff_getElem.1 hnd) k i j2 j1 klt
            rw [e1, e2] at this
            exact this e.symm
          simp (maxSteps := 400000) (dsimp := false) only [m5, m6, m8, m15, m16, m9, kil, axs, AThen, ABlock, dstsOk, AStep, callsF, AWant, aop, AS.ev, AS.put, upd, AS.bound, abin, aint, aload, astore, cellsAt, AV.cells, alen, elems, AV.int?, FPost, aresL, ares1, pack, afill, splice, Value.oneCell', Nat.reduceLT, Nat.reduceLeDiff, Nat.reduceEqDiff, Nat.reduceAdd, Nat.reduceMul, Nat.reduceSub, Nat.reduceBEq, Int.reduceLE, Int.reduceLT, Int.reduceToNat, Int.reduceNeg, Int.reduceEq, axt, ftK, ft3, pickP, AScope, AAll, pickQ, ftQ, inHeap, SAct.cells, Nd.cells, getF, tys]
          refine ADraw.planR [] [(0, true), (1, true), (2, true), (3, true), (4, true), (5, true), (6, true), (7, true), (8, true)] [(0, false), (0, false), (0, false), (0, false), (0, false), (0, false), (0, false), (0, false), (0, false)] mixed (by kernel_rfl) (by kernel_rfl) ?_
          simp (maxSteps := 400000) (dsimp := false) only [m5, m6, m8, m15, m16, m9, mH, h8, i0, k0, ipl, kpl, hga, hgb, hab, kw, U_len, axs, AThen, ABlock, dstsOk, AStep, callsF, AWant, aop, AS.ev, AS.put, upd, AS.bound, abin, aint, aload, astore, cellsAt, AV.cells, alen, elems, AV.int?, FPost, aresL, ares1, pack, afill, splice, Value.oneCell', Nat.reduceLT, Nat.reduceLeDiff, Nat.reduceEqDiff, Nat.reduceAdd, Nat.reduceMul, Nat.reduceSub, Nat.reduceBEq, Int.reduceLE, Int.reduceLT, Int.reduceToNat, Int.reduceNeg, Int.reduceEq, axt, ftK, ft3, pickP, AScope, AAll, pickQ, ftQ, inHeap, SAct.cells, Nd.cells, getF, tys]
          exact ⟨klt, mn⟩
        · have kil : ¬ (k : Int) < i := by omega
          simp (maxSteps := 400000) (dsimp := false) only [m5, m6, m8, m15, m16, m9, kil, iw, axs, AThen, ABlock, dstsOk, AStep, callsF, AWant, aop, AS.ev, AS.put, upd, AS.bound, abin, aint, aload, astore, cellsAt, AV.cells, alen, elems, AV.int?, FPost, aresL, ares1, pack, afill, splice, Value.oneCell', Nat.reduceLT, Nat.reduceLeDiff, Nat.reduceEqDiff, Nat.reduceAdd, Nat.reduceMul, Nat.reduceSub, Nat.reduceBEq, Int.reduceLE, Int.reduceLT, Int.reduceToNat, Int.reduceNeg, Int.reduceEq, axt, ftK, ft3, pickP, AScope, AAll, pickQ, ftQ, inHeap, SAct.cells, Nd.cells, getF, tys]
          exact ⟨ilt, h7.symm, mH, mn⟩
      · have ipl : ¬ (i : Int) < al.length := by omega
        have cT2 : HCalls Try.prog 13 [.ptr S 4 0 0] s1.H s1.n fun v H' n' => v = .sc (.int .i64 al.length) ∧ H' = s1.H ∧ n' = s1.n := by rw [gH, gn]; exact cT
        rcases hv.cases hb with ⟨h7, h8⟩ | ⟨id, hlt2, hne, h7, h8⟩
        · have : al = [] := by simpa [U] using h7
          subst this
          rw [h8] at g9
          have i0 : ¬ (i : Int) < 0 := by omega
          simp (maxSteps := 400000) (dsimp := false) only [g5, g6, g8, g15, g9, i0, axs, AThen, ABlock, dstsOk, AStep, callsF, AWant, aop, AS.ev, AS.put, upd, AS.bound, abin, aint, aload, astore, cellsAt, AV.cells, alen, elems, AV.int?, FPost, aresL, ares1, pack, afill, splice, Value.oneCell', Nat.reduceLT, Nat.reduceLeDiff, Nat.reduceEqDiff, Nat.reduceAdd, Nat.reduceMul, Nat.reduceSub, Nat.reduceBEq, Int.reduceLE, Int.reduceLT, Int.reduceToNat, Int.reduceNeg, Int.reduceEq, axt, ftK, ft3, pickP, AScope, AAll, pickQ, ftQ, inHeap, SAct.cells, Nd.cells, getF, tys]
          refine ACallK.heap _ rfl (cT2) ?_; rintro r' H' n' ⟨rfl, eH, en⟩; obtain rfl := eH.symm; obtain rfl := en.symm; clear eH en; simp (maxSteps := 400000) (dsimp := false) only [g5, g6, g8, g15, g9, axs, AThen, ABlock, dstsOk, AStep, callsF, AWant, aop, AS.ev, AS.put, upd, AS.bound, abin, aint, aload, astore, cellsAt, AV.cells, alen, elems, AV.int?, FPost, aresL, ares1, pack, afill, splice, Value.oneCell', Nat.reduceLT, Nat.reduceLeDiff, Nat.reduceEqDiff, Nat.reduceAdd, Nat.reduceMul, Nat.reduceSub, Nat.reduceBEq, Int.reduceLE, Int.reduceLT, Int.reduceToNat, Int.reduceNeg, Int.reduceEq, axt, ftK, ft3, pickP, AScope, AAll, pickQ, ftQ, inHeap, SAct.cells, Nd.cells, getF, tys]
          exact ⟨_, rfl, Sees.sc⟩
        · rw [U_len] at h7
          rw [h7] at g9
          simp (maxSteps := 400000) (dsimp := false) only [g5, g6, g8, g15, g9, ipl, axs, AThen, ABlock, dstsOk, AStep, callsF, AWant, aop, AS.ev, AS.put, upd, AS.bound, abin, aint, aload, astore, cellsAt, AV.cells, alen, elems, AV.int?, FPost, aresL, ares1, pack, afill, splice, Value.oneCell', Nat.reduceLT, Nat.reduceLeDiff, Nat.reduceEqDiff, Nat.reduceAdd, Nat.reduceMul, Nat.reduceSub, Nat.reduceBEq, Int.reduceLE, Int.reduceLT, Int.reduceToNat, Int.reduceNeg, Int.reduceEq, axt, ftK, ft3, pickP, AScope, AAll, pickQ, ftQ, inHeap, SAct.cells, Nd.cells, getF, tys]
          refine ACallK.heap _ rfl (cT2) ?_; rintro r' H' n' ⟨rfl, eH, en⟩; obtain rfl := eH.symm; obtain rfl := en.symm; clear eH en; simp (maxSteps := 400000) (dsimp := false) only [g5, g6, g8, g15, g9, axs, AThen, ABlock, dstsOk, AStep, callsF, AWant, aop, AS.ev, AS.put, upd, AS.bound, abin, aint, aload, astore, cellsAt, AV.cells, alen, elems, AV.int?, FPost, aresL, ares1, pack, afill, splice, Value.oneCell', Nat.reduceLT, Nat.reduceLeDiff, Nat.reduceEqDiff, Nat.reduceAdd, Nat.reduceMul, Nat.reduceSub, Nat.reduceBEq, Int.reduceLE, Int.reduceLT, Int.reduceToNat, Int.reduceNeg, Int.reduceEq, axt, ftK, ft3, pickP, AScope, AAll, pickQ, ftQ, inHeap, SAct.cells, Nd.cells, getF, tys]
          exact ⟨_, rfl, Sees.sc⟩
  · have h' : (l.length : Int) > 50 := by omega
    simp (maxSteps := 400000) (dsimp := false) only [h', axs, AThen, ABlock, dstsOk, AStep, callsF, AWant, aop, AS.ev, AS.put, upd, AS.bound, abin, aint, aload, astore, cellsAt, AV.cells, alen, elems, AV.int?, FPost, aresL, ares1, pack, afill, splice, Value.oneCell', Nat.reduceLT, Nat.reduceLeDiff, Nat.reduceEqDiff, Nat.reduceAdd, Nat.reduceMul, Nat.reduceSub, Nat.reduceBEq, Int.reduceLE, Int.reduceLT, Int.reduceToNat, Int.reduceNeg, Int.reduceEq, axt, ftK, ft3, pickP, AScope, AAll, pickQ, ftQ, inHeap, SAct.cells, Nd.cells, getF, tys]
    exact ⟨_, rfl, Sees.sc⟩
end Go.Al
