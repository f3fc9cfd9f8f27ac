/- Lists of places: each act's lists, of rows alone. Conditions: none. Keys in queues, of rows alone: a table's empty slots; a slot that is taken, laid, freed keeps what ties nodes to lists. Conditions: none. Keys in queues, of rows alone: each act keeps that each slot that is taken is in a list, and its key's. Conditions: the table isn't full. -/
import Derived.Test.YtdebjhjnpomlmaaIz4
import Derived.Test.YtdebjhjnpomlmaaHxA
import Derived.Test.YtdebjhjnpomlmaaInB
section
set_option linter.unusedVariables false
set_option linter.unusedSimpArgs false
set_option maxHeartbeats 1600000
namespace Go.Al
def placeI (l : List Int) (i : Int) : Int := if i ∈ l then l.idxOf i else -1
theorem placeI_at {l : List Int} (nd : l.Nodup) {p : Nat} {i : Int} (h : l[p]? = some i) : placeI l i = p := by
  have hm := List.mem_of_getElem? h
  unfold placeI
  rw [if_pos hm]
  have hlt := List.idxOf_lt_length_iff.2 hm
  have h1 : l[l.idxOf i]? = some i := by rw [List.getElem?_eq_getElem hlt, List.getElem_idxOf hlt]
  have := (List.getElem?_inj hlt nd).1 (h1.trans h.symm)
  rw [this]
section
variable {R A : RA} {rows : List Rw} {ls : List (List Int)}
def offL (R : RA) (rows : List Rw) (ls : List (List Int)) (i : Int) : List (List Int) :=
  if offOk R rows i then ls.set ((raAt R i).tag - 1).toNat ((ls.getD ((raAt R i).tag - 1).toNat []).eraseIdx ((ls.getD ((raAt R i).tag - 1).toNat []).idxOf i)) else ls
theorem LInv.offL (inv : LInv R rows ls) (i : Int) : LInv (offS R rows i).1 (offS R rows i).2 (Al.offL R rows ls i) ∧ (Al.offL R rows ls i).length = ls.length := by
  by_cases ho : offOk R rows i = true
  · obtain ⟨t, l, q, h1, h2, h3, h4⟩ := inv.take ho
    have ht : ((raAt R i).tag - 1).toNat = t := by omega
    have hg : ls.getD t [] = l := by rw [List.getD_eq_getElem?_getD, h1]; rfl
    have hq : l.idxOf i = q := by
      have := placeI_at (inv.one _ _ h1) h2
      unfold placeI at this
      rw [if_pos (List.mem_of_getElem? h2)] at this
      omega
    unfold Al.offL
    rw [if_pos ho, ht, hg, hq]
    exact ⟨h4, by simp⟩
  · have e : offS R rows i = (R, rows) := if_neg ho
    have e2 : Al.offL R rows ls i = ls := if_neg ho
    rw [e, e2]
    exact ⟨inv, rfl⟩
end
def mvL (R : RA) (rows : List Rw) (ls : List (List Int)) (t i : Int) : List (List Int) :=
  if 0 ≤ t ∧ t < rows.length then (if offOk R rows i then (if layOk (offS R rows i).1 (offS R rows i).2 t i then pushL (offL R rows ls i) t i true else offL R rows ls i) else ls) else ls
section
variable {R A : RA} {rows : List Rw} {ls : List (List Int)}
theorem pushL_len (ls : List (List Int)) (t i : Int) (f : Bool) : (pushL ls t i f).length = ls.length := by simp [pushL]
theorem LInv.pushFL (inv : LInv R rows ls) (t i : Int) : LInv (layS R rows t 0 i (frontR rows t)).1 (layS R rows t 0 i (frontR rows t)).2 (if layOk R rows t i then pushL ls t i true else ls) := by
  by_cases hlo : layOk R rows t i = true
  · rw [if_pos hlo]; exact inv.pushF hlo
  · have e : ∀ p n, layS R rows t p i n = (R, rows) := fun p n => if_neg hlo
    rw [if_neg hlo, e]; exact inv
theorem LInv.mvL (inv : LInv R rows ls) (t i : Int) : LInv (mvS R rows t i).1 (mvS R rows t i).2 (Al.mvL R rows ls t i) ∧ (Al.mvL R rows ls t i).length = ls.length := by
  obtain ⟨h1, h2⟩ := inv.offL i
  unfold mvS Al.mvL
  split
  · split
    · refine ⟨h1.pushFL t i, ?_⟩
      split
      · rw [pushL_len, h2]
      · exact h2
    · exact ⟨inv, rfl⟩
  · exact ⟨inv, rfl⟩
end
end Go.Al
end
section
set_option linter.unusedVariables false
set_option linter.unusedSimpArgs false
set_option maxHeartbeats 1600000
namespace Go.Al
/-- A table's empty slots hold nothing. -/
def Emp (T : Tb) : Prop := ∀ r, r < T.length → (sl T r).full = false → sl T r = z3
theorem Emp.set {T : Tb} (h : Emp T) (q : Nat) (s : Sl3) (hs : s.full = true ∨ s = z3) : Emp (T.set q s) := by
  intro r hr hf
  rw [List.length_set] at hr
  by_cases hq : q < T.length
  · rw [sl_set hq] at hf ⊢
    by_cases e : r = q
    · rw [if_pos e] at hf ⊢
      rcases hs with e2 | e2
      · rw [e2] at hf; cases hf
      · exact e2
    · rw [if_neg e] at hf ⊢
      exact h r hr hf
  · rw [List.set_eq_of_length_le (by omega)] at hf ⊢
    exact h r hr hf
theorem Emp.rep (N : Nat) : Emp (List.replicate N z3) := fun r _ _ => sl_rep N r
theorem Emp.relay (N : Nat) (h : Int → Nat) : ∀ (l : List Sl3) (U : Tb), Emp U → Emp (l.foldl (fun U s => if s.full then lay1 N h U s else U) U)
  | [], U, hU => hU
  | s :: l, U, hU => by
    rw [List.foldl_cons]
    refine Emp.relay N h l _ ?_
    by_cases e : s.full = true
    · rw [if_pos e]; exact hU.set _ _ (.inl e)
    · rw [if_neg e]; exact hU
theorem Emp.putT {T : Tb} (h : Emp T) (k : Int) : Emp (putT T k) := by
  unfold Al.putT
  split
  · exact h
  · unfold big
    split
    · exact Emp.relay _ _ _ _ (Emp.rep _)
    · exact h
theorem Emp.put {T : Tb} (h : Emp T) (k n : Int) : Emp (hPut T k n) := (h.putT k).set _ _ (.inl rfl)
theorem Emp.clr {T : Tb} (h : Emp T) (N q : Nat) : ∀ m, Emp (clr N q T m)
  | 0 => h.set _ _ (.inr rfl)
  | m + 1 => (Emp.clr h N q m).set _ _ (.inr rfl)
theorem Emp.rel {T : Tb} (h : Emp T) {N q c : Nat} {f : Int → Nat} (on : ∀ j, 1 ≤ j → j ≤ c → (sl T (adv N q j)).full = true) : ∀ j, j ≤ c → Emp (rel N f T q c j)
  | 0, _ => h.clr N q c
  | j + 1, hj => (Emp.rel h on j (by omega)).set _ _ (.inl (on (j + 1) (by omega) hj))
theorem Emp.del {T : Tb} (h : Emp T) (ok : HOk T) (k : Int) : Emp (hDel T k).1 := by
  unfold hDel
  by_cases hf : (sl T (hF T k)).full = true
  · rw [if_pos hf]
    exact h.rel (clen_is (ok.find k).lt hf ok.room).on _ (Nat.le_refl _)
  · rw [if_neg hf]; exact h
theorem raAlloc_all {R : RA} (ok : RaOk R) : 0 < (raAlloc R).2 ∧ (raAlloc R).2 ≤ R.ever + 1 ∧ (∀ k, k ≠ (raAlloc R).2 → raAt (raAlloc R).1 k = raAt R k ∧ raIs (raAlloc R).1 k = raIs R k) := by
  have e0 := ok.e0
  unfold raAlloc
  by_cases hf : R.freed = []
  · rw [if_neg (by simp [hf])]
    refine ⟨by show 0 < R.ever + 1; omega, Int.le_refl _, fun k hk => ?_⟩
    have hk : k ≠ R.ever + 1 := hk
    generalize (if R.ever + 1 ≥ R.len then 2 * R.len else R.len) = L
    have h1 : raIs ⟨L, R.ever + 1, [], R.nodes ++ [nd0]⟩ k = raIs R k := by
      unfold raIs
      have hb : decide (k ≤ R.ever + 1) = decide (k ≤ R.ever) := by rw [decide_eq_decide]; omega
      simp only [hb, hf]
    refine ⟨?_, h1⟩
    unfold raAt
    rw [h1]
    by_cases hr : raIs R k = true
    · rw [if_pos hr, if_pos hr]
      obtain ⟨q0, q1, _⟩ := ra_rng ok hr
      have : k.toNat < R.nodes.length := by rw [ok.nd]; omega
      simp [List.getD_eq_getElem?_getD, List.getElem?_append_left this]
    · rw [if_neg hr, if_neg hr]
  · rw [if_pos hf]
    have hsp := split_last hf
    have hm := List.mem_of_getElem? (lastI_get hf)
    obtain ⟨q0, q1⟩ := ok.fr _ hm
    have hd := ok.dup
    rw [hsp, List.nodup_append] at hd
    have hok : RaOk ⟨R.len, R.ever, R.freed.take (R.freed.length - 1), R.nodes⟩ := ⟨ok.e0, ok.e1, ok.nd, fun i hi => ok.fr i (List.mem_of_mem_take hi), hd.1⟩
    refine ⟨q0, by show lastI R.freed ≤ _; omega, fun k hk => ?_⟩
    have hk : k ≠ lastI R.freed := hk
    have h1 : raIs ⟨R.len, R.ever, R.freed.take (R.freed.length - 1), R.nodes⟩ k = raIs R k := by
      unfold raIs
      congr 2
      rw [decide_eq_decide]
      conv => rhs; rw [hsp]
      simp [hk]
    refine ⟨?_, by rw [raSet_is]; exact h1⟩
    show raAt (raSet ⟨R.len, R.ever, R.freed.take (R.freed.length - 1), R.nodes⟩ (lastI R.freed) nd0).1 k = _
    rw [raSet_at' hok, if_neg (fun h => hk h.2)]
    unfold raAt
    rw [h1]
theorem raFree_all {R : RA} (ok : RaOk R) {i : Int} (hi : raIs R i = true) : (∀ k, k ≠ i → raAt (raFree R i).1 k = raAt R k ∧ raIs (raFree R i).1 k = raIs R k) ∧ raIs (raFree R i).1 i = false ∧ raAt (raFree R i).1 i = nd0 := by
  have hf : raFree R i = (⟨R.len, R.ever, R.freed ++ [i], R.nodes⟩, true) := if_pos hi
  rw [hf]
  have h1 : raIs ⟨R.len, R.ever, R.freed ++ [i], R.nodes⟩ i = false := by unfold raIs; simp
  refine ⟨fun k hk => ?_, h1, by unfold raAt; rw [h1]; rfl⟩
  have h2 : raIs ⟨R.len, R.ever, R.freed ++ [i], R.nodes⟩ k = raIs R k := by unfold raIs; simp [hk]
  refine ⟨?_, h2⟩
  unfold raAt
  rw [h2]
section
variable {R R' : RA} {rows : List Rw} {ls : List (List Int)} {T : Tb}
theorem LInv.swap (h : LInv R rows ls) (ok : RaOk R') (hin : ∀ (t : Nat) (l : List Int), ls[t]? = some l → ∀ k ∈ l, raIs R' k = true ∧ (raAt R' k).tag = (raAt R k).tag ∧ (raAt R' k).prev = (raAt R k).prev ∧ (raAt R' k).next = (raAt R k).next)
    (hno : ∀ k, (∀ (t : Nat) (l : List Int), ls[t]? = some l → k ∉ l) → (raAt R' k).tag = 0 ∧ (raAt R' k).prev = 0 ∧ (raAt R' k).next = 0) : LInv R' rows ls := by
  refine ⟨ok, h.len, h.row, fun t l hl k hk => (hin t l hl k hk).1, h.one, h.apart, fun t l hl p i hp => ?_, hno⟩
  obtain ⟨_, e1, e2, e3⟩ := hin t l hl i (List.mem_of_getElem? hp)
  rw [e1, e2, e3]
  exact h.node t l hl p i hp
/-- What a store keeps: lists of slots, a table of keys: each slot that is taken is in a list, and its key's. -/
structure SInv (R : RA) (rows : List Rw) (ls : List (List Int)) (T : Tb) : Prop where
  inv : LInv R rows ls
  ok : HOk T
  emp : Emp T
  tab : ∀ k i, Mem T ⟨k, i, true⟩ ↔ raIs R i = true ∧ (raAt R i).key = k
  all : ∀ i, raIs R i = true → (raAt R i).tag ≠ 0
def nodeI (T : Tb) (k : Int) : Int := (sl T (hF T k)).n
theorem SInv.node (h : SInv R rows ls T) (k : Int) : (raIs R (nodeI T k) = true ∧ (raAt R (nodeI T k)).key = k ∧ nodeI T k ≠ 0 ∧ (sl T (hF T k)).full = true) ∨ (nodeI T k = 0 ∧ (sl T (hF T k)).full = false ∧ ∀ i, raIs R i = true → (raAt R i).key ≠ k) := by
  obtain ⟨h1, h2⟩ := h.ok.there k
  cases hf : (sl T (hF T k)).full with
  | true =>
    obtain ⟨m, e⟩ := h1 hf
    have : sl T (hF T k) = ⟨k, nodeI T k, true⟩ := by
      unfold nodeI
      cases hs : sl T (hF T k) with
      | mk a b c => rw [hs] at e hf; simp at e hf; rw [e, hf]
    rw [this] at m
    obtain ⟨g1, g2⟩ := (h.tab _ _).1 m
    exact .inl ⟨g1, g2, live_ne h.inv.ok g1, rfl⟩
  | false =>
    refine .inr ⟨?_, rfl, fun i hi hk => h2 hf _ ((h.tab k i).2 ⟨hi, hk⟩) rfl⟩
    have := h.emp _ (h.ok.find k).lt hf
    unfold nodeI
    rw [this]; rfl
theorem SInv.uniq (h : SInv R rows ls T) {i j : Int} (hi : raIs R i = true) (hj : raIs R j = true) (e : (raAt R i).key = (raAt R j).key) : i = j := by
  have a := (h.tab _ i).2 ⟨hi, rfl⟩
  have b := (h.tab _ j).2 ⟨hj, e.symm⟩
  obtain ⟨_, r, r1, r2⟩ := a
  obtain ⟨_, s, s1, s2⟩ := b
  have := h.ok.inv.apart r s r1 s1 (by rw [r2]) (by rw [s2]) (by rw [r2, s2])
  rw [this, s2] at r2
  simpa using r2.symm
theorem SInv.in_list (h : SInv R rows ls T) {i : Int} (hi : raIs R i = true) : ∃ (t : Nat) (l : List Int) (q : Nat), ls[t]? = some l ∧ l[q]? = some i ∧ (raAt R i).tag = (t : Int) + 1 := by
  rcases h.inv.tagD i with h1 | ⟨_, h3⟩
  · exact h1
  · exact absurd h3 (h.all i hi)
/-- The arena, a slot taken for a key. -/
def pshR (R : RA) (k : Int) : RA := (raSet (raAlloc R).1 (raAlloc R).2 ⟨k, 0, 0, 0, 0, 0⟩).1
theorem pshR_all (ok : RaOk R) (k : Int) : RaOk (pshR R k) ∧ raIs R (raAlloc R).2 = false ∧ raIs (pshR R k) (raAlloc R).2 = true ∧ raAt (pshR R k) (raAlloc R).2 = ⟨k, 0, 0, 0, 0, 0⟩ ∧ ∀ j, j ≠ (raAlloc R).2 → raAt (pshR R k) j = raAt R j ∧ raIs (pshR R k) j = raIs R j := by
  obtain ⟨_, a2, a3, a4, a5⟩ := arAlloc_of ok
  obtain ⟨b1, b2, b3⟩ := raAlloc_all ok
  unfold pshR
  refine ⟨(arSet_of a2 _ _).2, a3, by rw [raSet_is]; exact a4, by rw [raSet_at' a2, if_pos ⟨a4, rfl⟩], fun j hj => ?_⟩
  rw [raSet_at' a2, if_neg (fun h => hj h.2), raSet_is]
  exact b3 j hj
theorem LInv.psh (h : LInv R rows ls) (k : Int) : LInv (pshR R k) rows ls := by
  obtain ⟨p1, p2, p3, p4, p5⟩ := pshR_all h.ok k
  refine h.swap p1 (fun t l hl j hj => ?_) (fun j hj => ?_)
  · have hl := h.live t l hl j hj
    have hne : j ≠ (raAlloc R).2 := fun e => by rw [e, p2] at hl; cases hl
    exact ⟨by rw [(p5 j hne).2]; exact hl, by rw [(p5 j hne).1], by rw [(p5 j hne).1], by rw [(p5 j hne).1]⟩
  · by_cases e : j = (raAlloc R).2
    · rw [e, p4]; exact ⟨rfl, rfl, rfl⟩
    · rw [(p5 j e).1]; exact h.none j hj
end
end Go.Al
end
section
set_option linter.unusedVariables false
set_option linter.unusedSimpArgs false
set_option maxHeartbeats 1600000
namespace Go.Al
section
variable {R R' : RA} {rows : List Rw} {ls : List (List Int)} {T : Tb}
theorem pushL_mem {ls : List (List Int)} {t i j : Int} {f : Bool} {u : Nat} {l : List Int} (hl : ls[u]? = some l) (hj : j ∈ l) : ∃ l', (pushL ls t i f)[u]? = some l' ∧ j ∈ l' := by
  have hlt := (List.getElem?_eq_some_iff.1 hl).1
  unfold pushL
  by_cases e : u = t.toNat
  · subst e
    have hg : ls.getD t.toNat [] = l := by rw [List.getD_eq_getElem?_getD, hl]; rfl
    rw [List.getElem?_set_self hlt, hg]
    cases f
    · exact ⟨_, rfl, by simp [hj]⟩
    · exact ⟨_, rfl, by simp [hj]⟩
  · rw [List.getElem?_set_ne (fun h => e h.symm)]
    exact ⟨l, hl, hj⟩
theorem pushL_new {ls : List (List Int)} {t i : Int} {f : Bool} (ht : t.toNat < ls.length) : ∃ l', (pushL ls t i f)[t.toNat]? = some l' ∧ i ∈ l' := by
  unfold pushL
  rw [List.getElem?_set_self ht]
  cases f
  · exact ⟨_, rfl, by simp⟩
  · exact ⟨_, rfl, by simp⟩
theorem LInv.tag_ne (h : LInv R rows ls) {t : Nat} {l : List Int} {i : Int} (hl : ls[t]? = some l) (hi : i ∈ l) : (raAt R i).tag ≠ 0 := by
  obtain ⟨p, hp⟩ := List.getElem?_of_mem hi
  have := (h.node t l hl p i hp).1
  omega
theorem SInv.pushed (h : SInv R rows ls T) {k q : Int} (k0 : 0 ≤ k) (k1 : k < 18446744073709551616) (hno : nodeI T k = 0) (hq : 0 ≤ q ∧ q < rows.length) (hs : T.length ≤ 524288) {R3 : RA} {rows3 : List Rw} {f : Bool} (inv3 : LInv R3 rows3 (pushL ls q (raAlloc R).2 f)) (sm : Same (pshR R k) R3) :
    SInv R3 rows3 (pushL ls q (raAlloc R).2 f) (hPut T k (raAlloc R).2) := by
  obtain ⟨p1, p2, p3, p4, p5⟩ := pshR_all h.inv.ok k
  obtain ⟨g1, g2, _⟩ := put_all h.ok hs k0 k1 (raAlloc R).2
  have hnk : ∀ i, raIs R i = true → (raAt R i).key ≠ k := by
    rcases h.node k with ⟨_, _, n3, _⟩ | ⟨_, _, n3⟩
    · exact absurd hno n3
    · exact n3
  have hql : q.toNat < ls.length := by rw [← h.inv.len]; omega
  refine ⟨inv3, g1, h.emp.put _ _, fun k' j => ?_, fun j hj => ?_⟩
  · rw [g2, sm.is, (sm.kvf j).1]
    by_cases e : j = (raAlloc R).2
    · subst e
      rw [p3, p4]
      constructor
      · rintro (e | ⟨m, _⟩)
        · exact ⟨rfl, by simpa using e.symm⟩
        · have := ((h.tab _ _).1 m).1
          rw [p2] at this; cases this
      · rintro ⟨_, e⟩
        exact .inl (by rw [show k = k' from e])
    · rw [(p5 j e).1, (p5 j e).2]
      constructor
      · rintro (e2 | ⟨m, _⟩)
        · exact absurd (by simpa using congrArg Sl3.n e2) e
        · exact (h.tab _ _).1 m
      · intro m
        exact .inr ⟨(h.tab _ _).2 m, fun e2 => hnk j m.1 (m.2.trans e2)⟩
  · rw [sm.is] at hj
    by_cases e : j = (raAlloc R).2
    · subst e
      obtain ⟨l', h1, h2⟩ := pushL_new (ls := ls) (t := q) (i := (raAlloc R).2) (f := f) hql
      exact inv3.tag_ne h1 h2
    · rw [(p5 j e).2] at hj
      obtain ⟨t, l, p, h1, h2, _⟩ := h.in_list hj
      obtain ⟨l', h3, h4⟩ := pushL_mem (t := q) (i := (raAlloc R).2) (f := f) h1 (List.mem_of_getElem? h2)
      exact inv3.tag_ne h3 h4
theorem psh_ok (h : SInv R rows ls T) (k : Int) {q : Int} (hq : 0 ≤ q ∧ q < rows.length) : layOk (pshR R k) rows q (raAlloc R).2 = true := by
  obtain ⟨_, _, p3, p4, _⟩ := pshR_all h.inv.ok k
  exact layOk_iff.2 ⟨hq, p3, by rw [p4]⟩
theorem SInv.pushF (h : SInv R rows ls T) {k q : Int} (k0 : 0 ≤ k) (k1 : k < 18446744073709551616) (hno : nodeI T k = 0) (hq : 0 ≤ q ∧ q < rows.length) (hs : T.length ≤ 524288) :
    SInv (layS (pshR R k) rows q 0 (raAlloc R).2 (frontR rows q)).1 (layS (pshR R k) rows q 0 (raAlloc R).2 (frontR rows q)).2 (pushL ls q (raAlloc R).2 true) (hPut T k (raAlloc R).2) :=
  h.pushed k0 k1 hno hq hs ((h.inv.psh k).pushF (psh_ok h k hq)) (Same.layS (h.inv.psh k).ok _ _ _ _ _)
theorem SInv.pushB (h : SInv R rows ls T) {k q : Int} (k0 : 0 ≤ k) (k1 : k < 18446744073709551616) (hno : nodeI T k = 0) (hq : 0 ≤ q ∧ q < rows.length) (hs : T.length ≤ 524288) :
    SInv (layS (pshR R k) rows q (backR rows q) (raAlloc R).2 0).1 (layS (pshR R k) rows q (backR rows q) (raAlloc R).2 0).2 (pushL ls q (raAlloc R).2 false) (hPut T k (raAlloc R).2) :=
  h.pushed k0 k1 hno hq hs ((h.inv.psh k).pushB (psh_ok h k hq)) (Same.layS (h.inv.psh k).ok _ _ _ _ _)
theorem erase_mem {l : List Int} {q : Nat} {i j : Int} (hq : l[q]? = some i) (hj : j ∈ l) (hne : j ≠ i) : j ∈ l.eraseIdx q := by
  obtain ⟨p, hp⟩ := List.getElem?_of_mem hj
  by_cases e : p < q
  · exact List.mem_of_getElem? (i := p) (by rw [erase_get?, if_pos e]; exact hp)
  · have : p ≠ q := by rintro rfl; rw [hq] at hp; exact hne (Option.some.inj hp).symm
    exact List.mem_of_getElem? (i := p - 1) (by rw [erase_get?, if_neg (by omega), show p - 1 + 1 = p by omega]; exact hp)
theorem erase_not {l : List Int} {q : Nat} {i : Int} (nd : l.Nodup) (hq : l[q]? = some i) : i ∉ l.eraseIdx q := by
  intro hi
  have hql := (List.getElem?_eq_some_iff.1 hq).1
  obtain ⟨p, hp⟩ := List.getElem?_of_mem hi
  have hpl := (List.getElem?_eq_some_iff.1 hp).1
  rw [List.length_eraseIdx, if_pos hql] at hpl
  rw [erase_get?] at hp
  by_cases e : p < q
  · rw [if_pos e] at hp
    have := (List.getElem?_inj (by omega) nd).1 (hp.trans hq.symm)
    omega
  · rw [if_neg e] at hp
    have := (List.getElem?_inj (by omega) nd).1 (hp.trans hq.symm)
    omega
/-- What is out of a list is in none; what else was in one is. -/
theorem off_mem (inv : LInv R rows ls) {i : Int} (ho : offOk R rows i = true) : (∀ (u : Nat) (m : List Int), (offL R rows ls i)[u]? = some m → i ∉ m) ∧ (∀ (j : Int), j ≠ i → ∀ (u : Nat) (m : List Int), ls[u]? = some m → j ∈ m → ∃ m', (offL R rows ls i)[u]? = some m' ∧ j ∈ m') := by
  obtain ⟨t, l, q, h1, h2, h3, _⟩ := inv.take ho
  have hlt := (List.getElem?_eq_some_iff.1 h1).1
  have ht : ((raAt R i).tag - 1).toNat = t := by omega
  have hg : ls.getD t [] = l := by rw [List.getD_eq_getElem?_getD, h1]; rfl
  have hq : l.idxOf i = q := by
    have := placeI_at (inv.one _ _ h1) h2
    unfold placeI at this
    rw [if_pos (List.mem_of_getElem? h2)] at this
    omega
  have he : offL R rows ls i = ls.set t (l.eraseIdx q) := by unfold offL; rw [if_pos ho, ht, hg, hq]
  rw [he]
  refine ⟨fun u m hm => ?_, fun j hj u m hm hjm => ?_⟩
  · rcases get_set hm with ⟨rfl, rfl⟩ | ⟨hu, hm⟩
    · exact erase_not (inv.one _ _ h1) h2
    · exact fun hi => hu (inv.apart u t m l hm h1 i hi (List.mem_of_getElem? h2))
  · by_cases e : u = t
    · subst e
      rw [h1] at hm
      cases hm
      exact ⟨_, List.getElem?_set_self hlt, erase_mem h2 hjm hj⟩
    · exact ⟨m, by rw [List.getElem?_set_ne (fun hh => e hh.symm)]; exact hm, hjm⟩
theorem SInv.off_ok (h : SInv R rows ls T) {i : Int} (hi : raIs R i = true) : offOk R rows i = true := by
  obtain ⟨t, l, q, h1, h2, h3⟩ := h.in_list hi
  have := (List.getElem?_eq_some_iff.1 h1).1
  exact decide_eq_true (by rw [h.inv.len]; omega)
theorem SInv.remove (h : SInv R rows ls T) {k : Int} (hi : raIs R (nodeI T k) = true) (hk : (raAt R (nodeI T k)).key = k) :
    SInv (raFree (offS R rows (nodeI T k)).1 (nodeI T k)).1 (offS R rows (nodeI T k)).2 (offL R rows ls (nodeI T k)) (hDel T k).1 := by
  generalize nodeI T k = i at *
  have ho := h.off_ok hi
  obtain ⟨inv2, _⟩ := h.inv.offL i
  have sm := Same.offS h.inv.ok rows i
  obtain ⟨m1, m2⟩ := off_mem h.inv ho
  have hi2 : raIs (offS R rows i).1 i = true := by rw [sm.is]; exact hi
  obtain ⟨f1, f2, f3⟩ := raFree_all inv2.ok hi2
  have inv3 : LInv (raFree (offS R rows i).1 i).1 (offS R rows i).2 (offL R rows ls i) := by
    refine inv2.swap (arFree_of inv2.ok i).2 (fun t l hl j hj => ?_) (fun j hj => ?_)
    · have hne : j ≠ i := fun e => m1 t l hl (by rw [← e]; exact hj)
      exact ⟨by rw [(f1 j hne).2]; exact inv2.live t l hl j hj, by rw [(f1 j hne).1], by rw [(f1 j hne).1], by rw [(f1 j hne).1]⟩
    · by_cases e : j = i
      · rw [e, f3]; exact ⟨rfl, rfl, rfl⟩
      · rw [(f1 j e).1]; exact inv2.none j hj
  obtain ⟨d1, d2, _⟩ := del_all h.ok k
  refine ⟨inv3, d1, h.emp.del h.ok k, fun k' j => ?_, fun j hj => ?_⟩
  · rw [d2]
    by_cases e : j = i
    · subst e
      rw [f2]
      constructor
      · rintro ⟨m, e2⟩
        exact absurd (((h.tab _ _).1 m).2.symm.trans hk) e2
      · rintro ⟨e2, _⟩; cases e2
    · rw [(f1 j e).1, (f1 j e).2, sm.is, (sm.kvf j).1]
      constructor
      · rintro ⟨m, _⟩; exact (h.tab _ _).1 m
      · intro m
        exact ⟨(h.tab _ _).2 m, fun e2 => e (h.uniq m.1 hi (by rw [m.2, hk]; exact e2))⟩
  · by_cases e : j = i
    · rw [e, f2] at hj; cases hj
    · rw [(f1 j e).2, sm.is] at hj
      obtain ⟨t, l, q, h1, h2, _⟩ := h.in_list hj
      obtain ⟨m', g1, g2⟩ := m2 j e t l h1 (List.mem_of_getElem? h2)
      exact inv3.tag_ne g1 g2
theorem SInv.move (h : SInv R rows ls T) {q i : Int} (hq : 0 ≤ q ∧ q < rows.length) (hi : raIs R i = true) : SInv (mvS R rows q i).1 (mvS R rows q i).2 (mvL R rows ls q i) T ∧ mvOk R rows q i = true := by
  have ho := h.off_ok hi
  obtain ⟨inv2, len2⟩ := h.inv.offL i
  have sm := Same.offS h.inv.ok rows i
  obtain ⟨m1, m2⟩ := off_mem h.inv ho
  have hlo : layOk (offS R rows i).1 (offS R rows i).2 q i = true := layOk_iff.2 ⟨by rw [offS_len]; exact hq, by rw [sm.is]; exact hi, (inv2.none i m1).1⟩
  have hL : mvL R rows ls q i = pushL (offL R rows ls i) q i true := by unfold mvL; rw [if_pos hq, if_pos ho, if_pos hlo]
  have inv3 := (h.inv.mvL q i).1
  have sm3 := Same.mvS h.inv.ok rows q i inv2.ok
  refine ⟨⟨inv3, h.ok, h.emp, fun k j => by rw [sm3.is, (sm3.kvf j).1]; exact h.tab k j, fun j hj => ?_⟩, by unfold mvOk; simp [hq, ho, hlo]⟩
  rw [sm3.is] at hj
  rw [hL] at inv3
  by_cases e : j = i
  · subst e
    obtain ⟨l', g1, g2⟩ := pushL_new (ls := offL R rows ls j) (t := q) (i := j) (f := true) (by rw [len2, ← h.inv.len]; omega)
    exact inv3.tag_ne g1 g2
  · obtain ⟨t, l, p, h1, h2, _⟩ := h.in_list hj
    obtain ⟨m', g1, g2⟩ := m2 j e t l h1 (List.mem_of_getElem? h2)
    obtain ⟨l', g3, g4⟩ := pushL_mem (t := q) (i := i) (f := true) g1 g2
    exact inv3.tag_ne g3 g4
/-- A node is laid, whose key and list stay. -/
theorem SInv.lay (h : SInv R rows ls T) {i : Int} (hi : raIs R i = true) {x : Nd} (e0 : x.key = (raAt R i).key) (e1 : x.tag = (raAt R i).tag) (e2 : x.prev = (raAt R i).prev) (e3 : x.next = (raAt R i).next) : SInv (raSet R i x).1 rows ls T := by
  have hat : ∀ k, raAt (raSet R i x).1 k = if k = i then x else raAt R k := fun k => by
    rw [raSet_at' h.inv.ok]
    by_cases e : k = i
    · rw [if_pos ⟨hi, e⟩, if_pos e]
    · rw [if_neg (fun hh => e hh.2), if_neg e]
  have same : ∀ k, (raAt (raSet R i x).1 k).key = (raAt R k).key ∧ (raAt (raSet R i x).1 k).tag = (raAt R k).tag ∧ (raAt (raSet R i x).1 k).prev = (raAt R k).prev ∧ (raAt (raSet R i x).1 k).next = (raAt R k).next := fun k => by
    rw [hat]
    split
    · rename_i e; rw [e]; exact ⟨e0, e1, e2, e3⟩
    · exact ⟨rfl, rfl, rfl, rfl⟩
  refine ⟨h.inv.swap (arSet_of h.inv.ok i x).2 (fun t l hl k hk => ⟨by rw [raSet_is]; exact h.inv.live t l hl k hk, (same k).2⟩) (fun k hk => ?_), h.ok, h.emp, fun k j => ?_, fun j hj => ?_⟩
  · rw [(same k).2.1, (same k).2.2.1, (same k).2.2.2]; exact h.inv.none k hk
  · rw [raSet_is, (same j).1]; exact h.tab k j
  · rw [raSet_is] at hj
    rw [(same j).2.1]; exact h.all j hj
end
end Go.Al
end
