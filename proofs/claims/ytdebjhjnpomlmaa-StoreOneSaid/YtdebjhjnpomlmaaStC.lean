/- Keys in queues: how many there are, and how many slots; a new store. Conditions: few acts. Keys in queues: a new store. Conditions: none. Keys in queues: the awakening; a store that is nil. Conditions: the numbers fit their kinds. -/
import Derived.Test.YtdebjhjnpomlmaaStB
section
set_option linter.unusedVariables false
set_option linter.unusedSimpArgs false
set_option maxRecDepth 20000
set_option maxHeartbeats 1600000
-- axs, AThen, ABlock, dstsOk, AStep, callsF, AWant, aop, AS.ev, AS.put, upd, AS.bound, abin, aint, aload, astore, cellsAt, AV.cells, alen, elems, AV.int?, FPost, aresL, ares1, pack, afill, splice, Value.oneCell', Nat.reduceLT, Nat.reduceLeDiff, Nat.reduceEqDiff, Nat.reduceAdd, Nat.reduceMul, Nat.reduceSub, Nat.reduceBEq, Int.reduceLE, Int.reduceLT, Int.reduceToNat, Int.reduceNeg, Int.reduceEq, axt, ftK, ft3, pickP, AScope, AAll, pickQ, ftQ, inHeap, Nd.cells, tys: Nd.cells
namespace Go.Al
open Go.Proofs
def tot (ls : List (List Int)) : Nat := (ls.map List.length).sum
theorem tot_set : ∀ (ls : List (List Int)) (t : Nat) (l : List Int), t < ls.length → tot (ls.set t l) + (ls.getD t []).length = tot ls + l.length
  | [], _, _, h => by simp at h
  | a :: ls, 0, l, _ => by simp [tot]; omega
  | a :: ls, t + 1, l, h => by
    have := tot_set ls t l (by simpa using h)
    simp only [tot, List.set_cons_succ, List.map_cons, List.sum_cons, List.getD_cons_succ] at this ⊢
    omega
theorem tot_get : ∀ {ls : List (List Int)} {t : Nat} {l : List Int}, ls[t]? = some l → l.length ≤ tot ls
  | a :: ls, 0, l, h => by simp at h; subst h; simp [tot]
  | a :: ls, t + 1, l, h => by
    have := tot_get (ls := ls) (t := t) (by simpa using h)
    simp only [tot, List.map_cons, List.sum_cons] at this ⊢
    omega
/-- What is kept, and how much there was at once. -/
structure SB (x : SS) (m : Nat) : Prop where
  i : SInv x.R x.rows x.ls x.T
  q : x.ls.length ≤ 8
  cn : cnt x.T = tot x.ls
  lv : x.R.ever = x.R.freed.length + tot x.ls
  ev : x.R.ever ≤ m
  ln : x.R.len ≤ 2 * m + 8
  l8 : 8 ≤ x.R.len
  tl : x.T.length = 8 ∨ 3 * x.T.length < 8 * m
section
variable {x : SS} {m : Nat} {R R' : RA} {rows : List Rw} {ls : List (List Int)} {T : Tb}
theorem SB.ok (h : SB x m) (hm : m ≤ 900) : SOk x := ⟨h.i, by have := h.ev; omega, by have := h.ln; omega, h.q, by have := h.tl; omega⟩
theorem SB.le (h : SB x m) : tot x.ls ≤ m := by have := h.lv; have := h.ev; omega
theorem SB.mono (h : SB x m) {m' : Nat} (hm : m ≤ m') : SB x m' := ⟨h.i, h.q, h.cn, h.lv, by have := h.ev; omega, by have := h.ln; omega, h.l8, by have := h.tl; omega⟩
theorem tot_push {t i : Int} {f : Bool} (h : t.toNat < ls.length) : tot (pushL ls t i f) = tot ls + 1 := by
  unfold pushL
  have := fun l => tot_set ls t.toNat l h
  cases f
  · have := this (ls.getD t.toNat [] ++ [i])
    simp at this ⊢
    omega
  · have := this (i :: ls.getD t.toNat [])
    simp at this ⊢
    omega
theorem tot_off (inv : LInv R rows ls) {i : Int} (ho : offOk R rows i = true) : tot (offL R rows ls i) + 1 = tot ls := by
  obtain ⟨t, l, q, h1, h2, h3, _⟩ := inv.take ho
  have hlt := (List.getElem?_eq_some_iff.1 h1).1
  have hq := (List.getElem?_eq_some_iff.1 h2).1
  have ht : ((raAt R i).tag - 1).toNat = t := by omega
  have hg : ls.getD t [] = l := by rw [List.getD_eq_getElem?_getD, h1]; rfl
  have hx : l.idxOf i = q := by
    have := placeI_at (inv.one _ _ h1) h2
    unfold placeI at this
    rw [if_pos (List.mem_of_getElem? h2)] at this
    omega
  have he : offL R rows ls i = ls.set t (l.eraseIdx q) := by unfold offL; rw [if_pos ho, ht, hg, hx]
  have := tot_set ls t (l.eraseIdx q) hlt
  rw [he]
  rw [hg, List.length_eraseIdx, if_pos hq] at this
  omega
theorem pshR_cnt (ok : RaOk R) (k : Int) {n : Nat} (hl : R.ever = R.freed.length + n) {m : Nat} (he : R.ever ≤ m) (hln : R.len ≤ 2 * m + 8) (h8 : 8 ≤ R.len) : (pshR R k).ever = (pshR R k).freed.length + (n + 1 : Nat) ∧ (pshR R k).ever ≤ (max m (n + 1) : Nat) ∧ (pshR R k).len ≤ 2 * (max m (n + 1) : Nat) + 8 ∧ 8 ≤ (pshR R k).len ∧ (pshR R k).len = (if (n : Int) + 2 > R.len then 2 * R.len else R.len) := by
  have e1 := ok.e1
  have e0 := ok.e0
  unfold pshR
  have hs : ∀ (A : RA) (i : Int) (y : Nd), (raSet A i y).1.ever = A.ever ∧ (raSet A i y).1.len = A.len ∧ (raSet A i y).1.freed = A.freed := fun A i y => by unfold raSet; split <;> exact ⟨rfl, rfl, rfl⟩
  rw [(hs _ _ _).1, (hs _ _ _).2.1, (hs _ _ _).2.2]
  unfold raAlloc
  by_cases hf : R.freed = []
  · rw [if_neg (by simp [hf])]
    have h0 : R.ever = (n : Int) := by rw [hl, hf]; simp
    show R.ever + 1 = ([] : List Int).length + (n + 1 : Nat) ∧ R.ever + 1 ≤ (max m (n + 1) : Nat) ∧ (if R.ever + 1 ≥ R.len then 2 * R.len else R.len) ≤ 2 * (max m (n + 1) : Nat) + 8 ∧ 8 ≤ (if R.ever + 1 ≥ R.len then 2 * R.len else R.len) ∧ (if R.ever + 1 ≥ R.len then 2 * R.len else R.len) = (if (n : Int) + 2 > R.len then 2 * R.len else R.len)
    rw [show (if R.ever + 1 ≥ R.len then 2 * R.len else R.len) = (if (n : Int) + 2 > R.len then 2 * R.len else R.len) by congr 1; simp only [eq_iff_iff]; omega]
    refine ⟨by simp; omega, by omega, ?_, ?_, rfl⟩ <;> split <;> omega
  · rw [if_pos hf, (hs _ _ _).1, (hs _ _ _).2.1, (hs _ _ _).2.2]
    show R.ever = (R.freed.take (R.freed.length - 1)).length + (n + 1 : Nat) ∧ R.ever ≤ (max m (n + 1) : Nat) ∧ R.len ≤ 2 * (max m (n + 1) : Nat) + 8 ∧ 8 ≤ R.len ∧ R.len = (if (n : Int) + 2 > R.len then 2 * R.len else R.len)
    have : 0 < R.freed.length := List.length_pos_iff.2 hf
    rw [List.length_take]
    refine ⟨by omega, by omega, by omega, h8, ?_⟩
    rw [if_neg (by omega)]
theorem put_len (ok : HOk T) (hs : T.length ≤ 524288) {k : Int} (k0 : 0 ≤ k) (k1 : k < 18446744073709551616) (hno : (sl T (hF T k)).full = false) (v : Int) {m n : Nat} (hc : cnt T = n) (ht : T.length = 8 ∨ 3 * T.length < 8 * m) : cnt (hPut T k v) = n + 1 ∧ ((hPut T k v).length = 8 ∨ 3 * (hPut T k v).length < 8 * (max m (n + 1))) := by
  obtain ⟨p1, p2, p3, p4, p5⟩ := put_all ok hs k0 k1 v
  obtain ⟨g1, g2, g3, g4, g5⟩ := putT_all ok hs k
  rw [hno] at p3
  refine ⟨by rw [p3, hc]; rfl, ?_⟩
  rw [p4]
  rcases g5 with g5 | ⟨g5, g6, g7⟩ <;> omega
theorem SB.push (h : SB x m) (hm : m ≤ 900) {q k : Int} (hk : Key k) (f : Bool) (hp : psOk x q k = true) : SB (if f then psfS x q k else psbS x q k) (max m (tot x.ls + 1)) ∧ tot (if f then psfS x q k else psbS x q k).ls = tot x.ls + 1 := by
  have o := h.ok hm
  have hp2 := hp
  unfold psOk at hp2
  simp only [Bool.and_eq_true, decide_eq_true_eq] at hp2
  obtain ⟨hq, hno⟩ := hp2
  have hfull : (sl x.T (hF x.T k)).full = false := by
    rcases h.i.node k with ⟨_, _, n3, _⟩ | ⟨_, n2, _⟩
    · exact absurd hno n3
    · exact n2
  obtain ⟨c1, c2, c3, c4, _⟩ := pshR_cnt h.i.inv.ok k h.lv h.ev h.ln h.l8
  obtain ⟨d1, d2⟩ := put_len h.i.ok o.tl hk.1 hk.2 hfull (raAlloc x.R).2 h.cn h.tl
  have hql : q.toNat < x.ls.length := by rw [← h.i.inv.len]; omega
  have hps := (pshR_all h.i.inv.ok k).1
  cases f
  · rw [if_neg (by simp)]
    have e : psbS x q k = ⟨_, _, _, _⟩ := if_pos hp
    have sm := Same.layS hps x.rows q (backR x.rows q) (raAlloc x.R).2 0
    rw [e]
    refine ⟨⟨h.i.pushB hk.1 hk.2 hno hq o.tl, by rw [pushL_len]; exact h.q, by rw [tot_push hql]; exact d1, ?_, ?_, ?_, ?_, d2⟩, tot_push hql⟩
    · show (layS _ _ _ _ _ _).1.ever = (layS _ _ _ _ _ _).1.freed.length + (tot (pushL _ _ _ _) : Nat)
      rw [sm.ever, sm.freed, tot_push hql]; exact c1
    · show (layS _ _ _ _ _ _).1.ever ≤ _
      rw [sm.ever]; exact c2
    · show (layS _ _ _ _ _ _).1.len ≤ _
      rw [sm.len]; exact c3
    · show _ ≤ (layS _ _ _ _ _ _).1.len
      rw [sm.len]; exact c4
  · rw [if_pos rfl]
    have e : psfS x q k = ⟨_, _, _, _⟩ := if_pos hp
    have sm := Same.layS hps x.rows q 0 (raAlloc x.R).2 (frontR x.rows q)
    rw [e]
    refine ⟨⟨h.i.pushF hk.1 hk.2 hno hq o.tl, by rw [pushL_len]; exact h.q, by rw [tot_push hql]; exact d1, ?_, ?_, ?_, ?_, d2⟩, tot_push hql⟩
    · show (layS _ _ _ _ _ _).1.ever = (layS _ _ _ _ _ _).1.freed.length + (tot (pushL _ _ _ _) : Nat)
      rw [sm.ever, sm.freed, tot_push hql]; exact c1
    · show (layS _ _ _ _ _ _).1.ever ≤ _
      rw [sm.ever]; exact c2
    · show (layS _ _ _ _ _ _).1.len ≤ _
      rw [sm.len]; exact c3
    · show _ ≤ (layS _ _ _ _ _ _).1.len
      rw [sm.len]; exact c4
theorem tot_mv (inv : LInv R rows ls) {q i : Int} (hq : 0 ≤ q ∧ q < rows.length) (ho : offOk R rows i = true) (hok : mvOk R rows q i = true) : tot (mvL R rows ls q i) = tot ls := by
  obtain ⟨inv2, len2⟩ := inv.offL i
  have hlo : layOk (offS R rows i).1 (offS R rows i).2 q i = true := by unfold mvOk at hok; simpa [hq, ho] using hok
  have hL : mvL R rows ls q i = pushL (offL R rows ls i) q i true := by unfold mvL; rw [if_pos hq, if_pos ho, if_pos hlo]
  rw [hL, tot_push (by rw [len2, ← inv.len]; omega)]
  exact tot_off inv ho
theorem SB.move (h : SB x m) (hm : m ≤ 900) (q k : Int) : SB (movS x q k) m ∧ tot (movS x q k).ls = tot x.ls := by
  have o := h.ok hm
  unfold movS
  split
  · exact ⟨h, rfl⟩
  · rename_i h0
    obtain ⟨l1, l2, l3⟩ := o.live h0
    by_cases hq : 0 ≤ q ∧ q < x.rows.length
    · obtain ⟨g1, g2⟩ := h.i.move hq l1
      have ho := h.i.off_ok l1
      have ht := tot_mv h.i.inv hq ho g2
      have sm := Same.mvS h.i.inv.ok x.rows q (nodeI x.T k) (h.i.inv.offL (nodeI x.T k)).1.ok
      refine ⟨⟨g1, by rw [(h.i.inv.mvL q _).2]; exact h.q, by rw [ht]; exact h.cn, ?_, ?_, ?_, ?_, h.tl⟩, ht⟩
      · show (mvS _ _ _ _).1.ever = (mvS _ _ _ _).1.freed.length + (tot (mvL _ _ _ _ _) : Nat)
        rw [sm.ever, sm.freed, ht]; exact h.lv
      · show (mvS _ _ _ _).1.ever ≤ _
        rw [sm.ever]; exact h.ev
      · show (mvS _ _ _ _).1.len ≤ _
        rw [sm.len]; exact h.ln
      · show _ ≤ (mvS _ _ _ _).1.len
        rw [sm.len]; exact h.l8
    · have e1 : mvS x.R x.rows q (nodeI x.T k) = (x.R, x.rows) := if_neg hq
      have e2 : mvL x.R x.rows x.ls q (nodeI x.T k) = x.ls := if_neg hq
      rw [e1, e2]
      exact ⟨⟨h.i, h.q, h.cn, h.lv, h.ev, h.ln, h.l8, h.tl⟩, rfl⟩
theorem SB.remove (h : SB x m) (hm : m ≤ 900) (k : Int) : SB (remS x k) m ∧ tot (remS x k).ls = tot x.ls - (if nodeI x.T k = 0 then 0 else 1) := by
  have o := h.ok hm
  unfold remS
  split
  · exact ⟨h, rfl⟩
  · rename_i h0
    obtain ⟨l1, l2, l3⟩ := o.live h0
    have ho := h.i.off_ok l1
    have ht := tot_off h.i.inv ho
    have sm := Same.offS h.i.inv.ok x.rows (nodeI x.T k)
    have hi2 : raIs (offS x.R x.rows (nodeI x.T k)).1 (nodeI x.T k) = true := by rw [sm.is]; exact l1
    have hf : raFree (offS x.R x.rows (nodeI x.T k)).1 (nodeI x.T k) = (⟨(offS x.R x.rows (nodeI x.T k)).1.len, (offS x.R x.rows (nodeI x.T k)).1.ever, (offS x.R x.rows (nodeI x.T k)).1.freed ++ [nodeI x.T k], (offS x.R x.rows (nodeI x.T k)).1.nodes⟩, true) := if_pos hi2
    obtain ⟨d1, d2, d3, d4⟩ := del_all h.i.ok k
    rw [l3] at d3
    have hlv := h.lv
    refine ⟨⟨h.i.remove l1 l2, by rw [(h.i.inv.offL _).2]; exact h.q, ?_, ?_, ?_, ?_, ?_, by rw [d4]; exact h.tl⟩, by show tot (offL _ _ _ _) = _; omega⟩
    · have := h.cn
      show cnt (hDel x.T k).1 = tot (offL _ _ _ _)
      rw [d3]
      simp
      omega
    · rw [hf]
      show (offS _ _ _).1.ever = (((offS _ _ _).1.freed ++ [nodeI x.T k]).length : Int) + (tot (offL _ _ _ _) : Nat)
      rw [sm.ever, sm.freed, List.length_append, List.length_singleton]
      omega
    · rw [hf]
      show (offS _ _ _).1.ever ≤ _
      rw [sm.ever]; exact h.ev
    · rw [hf]
      show (offS _ _ _).1.len ≤ _
      rw [sm.len]; exact h.ln
    · rw [hf]
      show _ ≤ (offS _ _ _).1.len
      rw [sm.len]; exact h.l8
theorem SB.setg (h : SB x m) (hm : m ≤ 900) (k : Int) {g : Nd → Nd} (hg : ∀ y, (g y).key = y.key ∧ (g y).tag = y.tag ∧ (g y).prev = y.prev ∧ (g y).next = y.next) : SB (setS x k g) m ∧ (setS x k g).ls = x.ls := by
  have o := h.ok hm
  unfold setS
  split
  · exact ⟨h, rfl⟩
  · rename_i h0
    obtain ⟨l1, l2, l3⟩ := o.live h0
    obtain ⟨g1, g2, g3, g4⟩ := hg (raAt x.R (nodeI x.T k))
    have hs : ∀ (A : RA) (i : Int) (y : Nd), (raSet A i y).1.ever = A.ever ∧ (raSet A i y).1.len = A.len ∧ (raSet A i y).1.freed = A.freed := fun A i y => by unfold raSet; split <;> exact ⟨rfl, rfl, rfl⟩
    refine ⟨⟨h.i.lay l1 g1 g2 g3 g4, h.q, h.cn, ?_, ?_, ?_, ?_, h.tl⟩, rfl⟩
    · unfold wth
      show (raSet _ _ _).1.ever = (raSet _ _ _).1.freed.length + (tot x.ls : Nat)
      rw [(hs _ _ _).1, (hs _ _ _).2.2]; exact h.lv
    · show (raSet _ _ _).1.ever ≤ _
      rw [(hs _ _ _).1]; exact h.ev
    · show (raSet _ _ _).1.len ≤ _
      rw [(hs _ _ _).2.1]; exact h.ln
    · show _ ≤ (raSet _ _ _).1.len
      rw [(hs _ _ _).2.1]; exact h.l8
end
end Go.Al
end
section
set_option linter.unusedVariables false
set_option linter.unusedSimpArgs false
set_option maxRecDepth 20000
set_option maxHeartbeats 1600000
-- axs, AThen, ABlock, dstsOk, AStep, callsF, AWant, aop, AS.ev, AS.put, upd, AS.bound, abin, aint, aload, astore, cellsAt, AV.cells, alen, elems, AV.int?, FPost, aresL, ares1, pack, afill, splice, Value.oneCell', Nat.reduceLT, Nat.reduceLeDiff, Nat.reduceEqDiff, Nat.reduceAdd, Nat.reduceMul, Nat.reduceSub, Nat.reduceBEq, Int.reduceLE, Int.reduceLT, Int.reduceToNat, Int.reduceNeg, Int.reduceEq, axt, ftK, ft3, pickP, AScope, AAll, pickQ, ftQ, inHeap, Nd.cells, tys: Nd.cells
namespace Go.Al
open Go.Proofs
theorem zeroAt {R : RA} (h : ∀ x ∈ R.nodes, x.tag = 0 ∧ x.prev = 0 ∧ x.next = 0) (i : Int) : (raAt R i).tag = 0 ∧ (raAt R i).prev = 0 ∧ (raAt R i).next = 0 := by
  unfold raAt
  split
  · rw [List.getD_eq_getElem?_getD]
    cases e : R.nodes[i.toNat]? with
    | none => exact ⟨rfl, rfl, rfl⟩
    | some x => exact h x (List.mem_of_getElem? e)
  · exact ⟨rfl, rfl, rfl⟩
theorem rep_get {α : Type} {m t : Nat} {x y : α} (h : (List.replicate m x)[t]? = some y) : y = x := by
  have := List.mem_of_getElem? h
  exact (List.mem_replicate.1 this).2
theorem LInv.new {R : RA} (ok : RaOk R) (h : ∀ x ∈ R.nodes, x.tag = 0 ∧ x.prev = 0 ∧ x.next = 0) (m : Nat) : LInv R (List.replicate m r0) (List.replicate m []) := by
  refine ⟨ok, by simp, ?_, ?_, ?_, ?_, ?_, fun i _ => zeroAt h i⟩
  · intro t l hl
    have hlt := (List.getElem?_eq_some_iff.1 hl).1
    rw [rep_get hl]
    simp at hlt
    simp [hlt, r0]
  · intro t l hl i hi; rw [rep_get hl] at hi; cases hi
  · intro t l hl; rw [rep_get hl]; exact List.nodup_nil
  · intro t u l m hl hm i hi; rw [rep_get hl] at hi; cases hi
  · intro t l hl p i hp; rw [rep_get hl] at hp; cases hp
def lsK (tags : Int) : Nat := (if 8 < (if 1 > tags then 1 else tags) then (8 : Int) else (if 1 > tags then 1 else tags)).toNat
theorem lsK_rng (tags : Int) : (if 8 < (if 1 > tags then 1 else tags) then (8 : Int) else (if 1 > tags then 1 else tags)) = (lsK tags : Int) ∧ 1 ≤ lsK tags ∧ lsK tags ≤ 8 := by
  unfold lsK
  by_cases h : 1 > tags <;> simp [h] <;> (try split) <;> omega
theorem cLsNew (a : Nat) (tags : Int) (H : AH) (n : Nat) :
    HCalls Try.prog 33 [.ptr a 4 0 0, .sc (.int .i64 tags)] H n fun v H' n' => v = .ptr (n + 1) 2 0 0 ∧ H' = upd (upd H n (some (.obj 122 3 (RW (List.replicate (lsK tags) r0)) false))) (n + 1) (some (.obj 103 2 [[.ptr a 4 0 0, .sl n 3 0 (lsK tags)]] false)) ∧ n' = n + 1 + 1 := by
  obtain ⟨hqe, q1, q2⟩ := lsK_rng tags
  generalize lsK tags = m at *
  have b1 : (0 : Int) ≤ (m : Int) := by omega
  have b2 : (m : Int) * 16 ≤ 140737488355328 := by omega
  have b3 : (m : Int) ≤ 1099511627776 := by omega
  have hrep := RW_rep m
  refine HCalls.walk Try.func33 rfl rfl Try.ntmps33 Try.results33 (by simp) ?_; simp (maxSteps := 400000) (dsimp := false) only [hqe, b1, b2, b3, hrep, axs, AThen, ABlock, dstsOk, AStep, callsF, AWant, aop, AS.ev, AS.put, upd, AS.bound, abin, aint, aload, astore, cellsAt, AV.cells, alen, elems, AV.int?, FPost, aresL, ares1, pack, afill, splice, Value.oneCell', Nat.reduceLT, Nat.reduceLeDiff, Nat.reduceEqDiff, Nat.reduceAdd, Nat.reduceMul, Nat.reduceSub, Nat.reduceBEq, Int.reduceLE, Int.reduceLT, Int.reduceToNat, Int.reduceNeg, Int.reduceEq, axt, ftK, ft3, pickP, AScope, AAll, pickQ, ftQ, inHeap, Nd.cells, tys]
  exact ⟨_, rfl, rfl⟩
theorem newLs {H : AH} {n a s : Nat} {fv : AV} {R : RA} (h : ArH H n a s fv (arnOf R)) (k : Nat) :
    LsH (upd (upd H n (some (.obj 122 3 (RW (List.replicate k r0)) false))) (n + 1) (some (.obj 103 2 [[.ptr a 4 0 0, .sl n 3 0 k]] false))) (n + 1 + 1) (n + 1) n a s fv R (List.replicate k r0) := by
  refine ⟨by rw [upd_same]; simp, by rw [upd_ne _ _ (by omega), upd_same], h.new.new, by omega, by omega, fun ho => ?_, fun ho => ?_⟩
  · have : n + 1 < n := by
      rcases ho with e | e | ⟨m, e⟩
      · have := h.la; omega
      · have := h.ls; omega
      · exact h.lf _ _ e
    omega
  · have : n < n := by
      rcases ho with e | e | ⟨m, e⟩
      · have := h.la; omega
      · have := h.ls; omega
      · exact h.lf _ _ e
    omega
theorem LsH.keeps {H H' : AH} {n n' L r a s : Nat} {fv : AV} {R : RA} {rows : List Rw} (h : LsH H n L r a s fv R rows) (k : Keeps H n H' n') : LsH H' n' L r a s fv R rows :=
  ⟨(k.2 L h.lL).trans h.hL, (k.2 r h.lr).trans h.hr, h.ar.keep k.1 fun j hj _ => k.2 j hj, Nat.lt_of_lt_of_le h.lL k.1, Nat.lt_of_lt_of_le h.lr k.1, h.nL, h.nr⟩
def newS (q : Int) : SS := ⟨raNew 7, List.replicate (lsK q) r0, List.replicate (lsK q) [], List.replicate 8 z3⟩
theorem raNew_no (room i : Int) : raIs (raNew room) i = false := by
  unfold raIs raNew
  simp
theorem raNew7 : raNew 7 = ⟨8, 0, [], [nd0]⟩ := by simp [raNew]
theorem tot_rep (k : Nat) : tot (List.replicate k []) = 0 := by
  induction k with
  | zero => rfl
  | succ k ih => rw [List.replicate_succ]; simp [tot]
theorem newS_ok (q : Int) : SB (newS q) 0 := by
  obtain ⟨_, q1, q2⟩ := lsK_rng q
  have hno : ∀ i, ¬ raIs (newS q).R i = true := fun i h => by
    have := raNew_no 7 i
    rw [show (newS q).R = raNew 7 from rfl, this] at h
    cases h
  refine ⟨⟨LInv.new (arNew_of 7).2 (by rw [raNew7]; simp [nd0]) _, empty_ok, Emp.rep 8, fun k i => ⟨fun h => absurd h (empty_mem _ _), fun h => absurd h.1 (hno i)⟩, fun i h => absurd h (hno i)⟩, by show (List.replicate _ _).length ≤ 8; simp; exact q2, ?_, ?_, ?_, ?_, ?_, .inl (by show (List.replicate 8 z3).length = 8; simp)⟩
  · show cnt (List.replicate 8 z3) = tot (List.replicate _ _)
    rw [empty_cnt, tot_rep]
  · show (raNew 7).ever = (raNew 7).freed.length + (tot (List.replicate _ _) : Nat)
    rw [raNew7, tot_rep]; rfl
  · show (raNew 7).ever ≤ _
    rw [raNew7]; decide
  · show (raNew 7).len ≤ _
    rw [raNew7]; decide
  · show _ ≤ (raNew 7).len
    rw [raNew7]; decide
theorem cStNew (q : Int) (H : AH) (n : Nat) : HCalls Try.prog 9 [.sc (.int .i64 q)] H n fun v H' n' => ∃ S L r a s ta ts fv, v = .ptr S 4 0 0 ∧ n ≤ S ∧ StL H' n' S L r a s ta ts fv (newS q) ∧ Keeps H n H' n' := by
  obtain ⟨hqe, q1, q2⟩ := lsK_rng q
  refine HCalls.walk Try.func9 rfl rfl Try.ntmps9 Try.results9 (by simp) ?_; simp (maxSteps := 400000) (dsimp := false) only [axs, AThen, ABlock, dstsOk, AStep, callsF, AWant, aop, AS.ev, AS.put, upd, AS.bound, abin, aint, aload, astore, cellsAt, AV.cells, alen, elems, AV.int?, FPost, aresL, ares1, pack, afill, splice, Value.oneCell', Nat.reduceLT, Nat.reduceLeDiff, Nat.reduceEqDiff, Nat.reduceAdd, Nat.reduceMul, Nat.reduceSub, Nat.reduceBEq, Int.reduceLE, Int.reduceLT, Int.reduceToNat, Int.reduceNeg, Int.reduceEq, axt, ftK, ft3, pickP, AScope, AAll, pickQ, ftQ, inHeap, Nd.cells, tys]
  refine ACallK.heap _ rfl (cArNew 7 _ _) ?_; rintro r' H' n' ⟨rfl, eH, en⟩; obtain rfl := eH.symm; obtain rfl := en.symm; clear eH en; simp (maxSteps := 400000) (dsimp := false) only [axs, AThen, ABlock, dstsOk, AStep, callsF, AWant, aop, AS.ev, AS.put, upd, AS.bound, abin, aint, aload, astore, cellsAt, AV.cells, alen, elems, AV.int?, FPost, aresL, ares1, pack, afill, splice, Value.oneCell', Nat.reduceLT, Nat.reduceLeDiff, Nat.reduceEqDiff, Nat.reduceAdd, Nat.reduceMul, Nat.reduceSub, Nat.reduceBEq, Int.reduceLE, Int.reduceLT, Int.reduceToNat, Int.reduceNeg, Int.reduceEq, axt, ftK, ft3, pickP, AScope, AAll, pickQ, ftQ, inHeap, Nd.cells, tys]
  have h0 : ArH (upd (upd H n (some (.obj 115 7 (SL (arNew 7).slots) false))) (n + 1) (some (.obj 100 4 [[.sl n 7 0 (arNew 7).slots.length, .sc (.slice none 0 0), .sc (.int .i64 1), .sc (.int .i64 0)]] false))) (n + 1 + 1) (n + 1) n (.sc (.slice none 0 0)) (arnOf (raNew 7)) := by
    have := arNew_H 7 H n
    rw [(arNew_of 7).1] at this
    exact this
  refine ACallK.heap _ rfl (cLsNew (n + 1) q _ _) ?_
  rintro v H1 n1 ⟨rfl, rfl, rfl⟩
  have h1 := newLs h0 (lsK q)
  simp (maxSteps := 400000) (dsimp := false) only [axs, AThen, ABlock, dstsOk, AStep, callsF, AWant, aop, AS.ev, AS.put, upd, AS.bound, abin, aint, aload, astore, cellsAt, AV.cells, alen, elems, AV.int?, FPost, aresL, ares1, pack, afill, splice, Value.oneCell', Nat.reduceLT, Nat.reduceLeDiff, Nat.reduceEqDiff, Nat.reduceAdd, Nat.reduceMul, Nat.reduceSub, Nat.reduceBEq, Int.reduceLE, Int.reduceLT, Int.reduceToNat, Int.reduceNeg, Int.reduceEq, axt, ftK, ft3, pickP, AScope, AAll, pickQ, ftQ, inHeap, Nd.cells, tys]
  refine ACallK.heap _ rfl (cHtNew _ _) ?_
  rintro v H2 n2 ⟨rfl, rfl, rfl⟩
  have h2 := LsH.keeps h1 (newH_keeps _ _)
  have h3 := newH_is (upd (upd (upd (upd H n (some (.obj 115 7 (SL (arNew 7).slots) false))) (n + 1) (some (.obj 100 4 [[.sl n 7 0 (arNew 7).slots.length, .sc (.slice none 0 0), .sc (.int .i64 1), .sc (.int .i64 0)]] false))) (n + 1 + 1) (some (.obj 122 3 (RW (List.replicate (lsK q) r0)) false))) (n + 1 + 1 + 1) (some (.obj 103 2 [[.ptr (n + 1) 4 0 0, .sl (n + 1 + 1) 3 0 (lsK q)]] false))) (n + 1 + 1 + 1 + 1)
  have kp := ((Keeps.refl H n).upd (x := some (.obj 115 7 (SL (arNew 7).slots) false))).upd (x := some (.obj 100 4 [[.sl n 7 0 (arNew 7).slots.length, .sc (.slice none 0 0), .sc (.int .i64 1), .sc (.int .i64 0)]] false))
  have kp1 := (kp.upd (x := some (.obj 122 3 (RW (List.replicate (lsK q) r0)) false))).upd (x := some (.obj 103 2 [[.ptr (n + 1) 4 0 0, .sl (n + 1 + 1) 3 0 (lsK q)]] false))
  have kp2 := kp1.trans (newH_keeps _ _)
  generalize hH : newH _ _ = H2 at *
  simp (maxSteps := 400000) (dsimp := false) only [hqe, axs, AThen, ABlock, dstsOk, AStep, callsF, AWant, aop, AS.ev, AS.put, upd, AS.bound, abin, aint, aload, astore, cellsAt, AV.cells, alen, elems, AV.int?, FPost, aresL, ares1, pack, afill, splice, Value.oneCell', Nat.reduceLT, Nat.reduceLeDiff, Nat.reduceEqDiff, Nat.reduceAdd, Nat.reduceMul, Nat.reduceSub, Nat.reduceBEq, Int.reduceLE, Int.reduceLT, Int.reduceToNat, Int.reduceNeg, Int.reduceEq, axt, ftK, ft3, pickP, AScope, AAll, pickQ, ftQ, inHeap, Nd.cells, tys]
  have kk := Keeps.refl H2 (n + 1 + 1 + 1 + 1 + 1 + 1)
  refine ⟨_, rfl, n + 1 + 1 + 1 + 1 + 1 + 1, n + 1 + 1 + 1, n + 1 + 1, n + 1, n, n + 1 + 1 + 1 + 1 + 1, n + 1 + 1 + 1 + 1, .sc (.slice none 0 0), rfl, by omega, ⟨?_, h2.keeps kk.upd, h3.keeps kk.upd, by omega⟩, kp2.upd⟩
  rw [upd_same]
  simp [newS]
end Go.Al
end
section
set_option linter.unusedVariables false
set_option linter.unusedSimpArgs false
set_option maxRecDepth 20000
set_option maxHeartbeats 3200000
-- axs, AThen, ABlock, dstsOk, AStep, callsF, AWant, aop, AS.ev, AS.put, upd, AS.bound, abin, aint, aload, astore, cellsAt, AV.cells, alen, elems, AV.int?, FPost, aresL, ares1, pack, afill, splice, Value.oneCell', Nat.reduceLT, Nat.reduceLeDiff, Nat.reduceEqDiff, Nat.reduceAdd, Nat.reduceMul, Nat.reduceSub, Nat.reduceBEq, Int.reduceLE, Int.reduceLT, Int.reduceToNat, Int.reduceNeg, Int.reduceEq, axt, ftK, ft3, pickP, AScope, AAll, pickQ, ftQ, inHeap, Nd.cells, tys: Nd.cells
namespace Go.Al
open Go.Proofs
def w0 : SS := newS 2
def w1 : SS := psfS w0 0 1
def w2 : SS := setS w1 1 (gVal 7)
def w3 : SS := movS w2 1 1
def w4 : SS := remS w3 1
theorem one_key : Key 1 := ⟨by omega, by omega⟩
theorem w_vals : psOk w0 0 1 = true ∧ isIn w1 1 = true ∧ movOk w2 1 1 = true ∧ nodeI w3.T 1 = 1 ∧ (raAt w3.R 1).tag = 2 ∧ (raAt w3.R (backR w3.rows 1)).key = 1 ∧ backR w3.rows 1 = 1 ∧ w3.R.len = 8 ∧ w3.T.length = 8 ∧ (raAt w3.R 1).val = 7 ∧ lenQ w3.rows 1 = 1 ∧ cnt w3.T = 1 ∧ psOk w3 0 1 = false ∧ isIn w3 1 = true ∧ isIn w4 1 = false := by decide +kernel
theorem w_ok : SB w0 1 ∧ SB w1 1 ∧ SB w2 1 ∧ SB w3 1 ∧ SB w4 1 := by
  have h0 : SB w0 0 := newS_ok 2
  have h1 := h0.push (by omega) one_key true w_vals.1
  have e : tot w0.ls = 0 := tot_rep _
  rw [if_pos rfl, e] at h1
  have h1 : SB w1 1 := h1.1
  have h2 : SB w2 1 := (h1.setg (g := gVal 7) (by omega) 1 (fun y => ⟨rfl, rfl, rfl, rfl⟩)).1
  have h3 : SB w3 1 := (h2.move (by omega) 1 1).1
  exact ⟨h0.mono (by omega), h1, h2, h3, (h3.remove (by omega) 1).1⟩
end Go.Al
end
