/- Keys in queues, of rows alone: a table's empty slots; a slot that is taken, laid, freed keeps what ties nodes to lists. Conditions: none. -/
import Derived.Test.YtdebjhjnpomlmaaHx3
import Derived.Test.YtdebjhjnpomlmaaIn13
set_option linter.unusedVariables false
set_option linter.unusedSimpArgs false
set_option maxHeartbeats 1600000
namespace Go.Al
/-- A table's empty slots hold nothing. -/
def Emp (T : Tb) : Prop := ∀ r, r < T.length → (sl T r).full = false → sl T r = z3
theorem Emp.set {T : Tb} (h : Emp T) (q : Nat) (s : Sl3) (hs : s.full = true ∨ s = z3) : Emp (T.set q s) := by
  intro r hr hf
  rw [List.length_set] at hr
  by_cases hq : q < T.length
  · rw [sl_set hq] at hf ⊢
    by_cases e : r = q
    · rw [if_pos e] at hf ⊢
      rcases hs with e2 | e2
      · rw [e2] at hf; cases hf
      · exact e2
    · rw [if_neg e] at hf ⊢
      exact h r hr hf
  · rw [List.set_eq_of_length_le (by omega)] at hf ⊢
    exact h r hr hf
theorem Emp.rep (N : Nat) : Emp (List.replicate N z3) := fun r _ _ => sl_rep N r
theorem Emp.relay (N : Nat) (h : Int → Nat) : ∀ (l : List Sl3) (U : Tb), Emp U → Emp (l.foldl (fun U s => if s.full then lay1 N h U s else U) U)
  | [], U, hU => hU
  | s :: l, U, hU => by
    rw [List.foldl_cons]
    refine Emp.relay N h l _ ?_
    by_cases e : s.full = true
    · rw [if_pos e]; exact hU.set _ _ (.inl e)
    · rw [if_neg e]; exact hU
theorem Emp.putT {T : Tb} (h : Emp T) (k : Int) : Emp (putT T k) := by
  unfold Al.putT
  split
  · exact h
  · unfold big
    split
    · exact Emp.relay _ _ _ _ (Emp.rep _)
    · exact h
theorem Emp.put {T : Tb} (h : Emp T) (k n : Int) : Emp (hPut T k n) := (h.putT k).set _ _ (.inl rfl)
theorem Emp.clr {T : Tb} (h : Emp T) (N q : Nat) : ∀ m, Emp (clr N q T m)
  | 0 => h.set _ _ (.inr rfl)
  | m + 1 => (Emp.clr h N q m).set _ _ (.inr rfl)
theorem Emp.rel {T : Tb} (h : Emp T) {N q c : Nat} {f : Int → Nat} (on : ∀ j, 1 ≤ j → j ≤ c → (sl T (adv N q j)).full = true) : ∀ j, j ≤ c → Emp (rel N f T q c j)
  | 0, _ => h.clr N q c
  | j + 1, hj => (Emp.rel h on j (by omega)).set _ _ (.inl (on (j + 1) (by omega) hj))
theorem Emp.del {T : Tb} (h : Emp T) (ok : HOk T) (k : Int) : Emp (hDel T k).1 := by
  unfold hDel
  by_cases hf : (sl T (hF T k)).full = true
  · rw [if_pos hf]
    exact h.rel (clen_is (ok.find k).lt hf ok.room).on _ (Nat.le_refl _)
  · rw [if_neg hf]; exact h
theorem raAlloc_all {R : RA} (ok : RaOk R) : 0 < (raAlloc R).2 ∧ (raAlloc R).2 ≤ R.ever + 1 ∧ (∀ k, k ≠ (raAlloc R).2 → raAt (raAlloc R).1 k = raAt R k ∧ raIs (raAlloc R).1 k = raIs R k) := by
  have e0 := ok.e0
  unfold raAlloc
  by_cases hf : R.freed = []
  · rw [if_neg (by simp [hf])]
    refine ⟨by show 0 < R.ever + 1; omega, Int.le_refl _, fun k hk => ?_⟩
    have hk : k ≠ R.ever + 1 := hk
    generalize (if R.ever + 1 ≥ R.len then 2 * R.len else R.len) = L
    have h1 : raIs ⟨L, R.ever + 1, [], R.nodes ++ [nd0]⟩ k = raIs R k := by
      unfold raIs
      have hb : decide (k ≤ R.ever + 1) = decide (k ≤ R.ever) := by rw [decide_eq_decide]; omega
      simp only [hb, hf]
    refine ⟨?_, h1⟩
    unfold raAt
    rw [h1]
    by_cases hr : raIs R k = true
    · rw [if_pos hr, if_pos hr]
      obtain ⟨q0, q1, _⟩ := ra_rng ok hr
      have : k.toNat < R.nodes.length := by rw [ok.nd]; omega
      simp [List.getD_eq_getElem?_getD, List.getElem?_append_left this]
    · rw [if_neg hr, if_neg hr]
  · rw [if_pos hf]
    have hsp := split_last hf
    have hm := List.mem_of_getElem? (lastI_get hf)
    obtain ⟨q0, q1⟩ := ok.fr _ hm
    have hd := ok.dup
    rw [hsp, List.nodup_append] at hd
    have hok : RaOk ⟨R.len, R.ever, R.freed.take (R.freed.length - 1), R.nodes⟩ := ⟨ok.e0, ok.e1, ok.nd, fun i hi => ok.fr i (List.mem_of_mem_take hi), hd.1⟩
    refine ⟨q0, by show lastI R.freed ≤ _; omega, fun k hk => ?_⟩
    have hk : k ≠ lastI R.freed := hk
    have h1 : raIs ⟨R.len, R.ever, R.freed.take (R.freed.length - 1), R.nodes⟩ k = raIs R k := by
      unfold raIs
      congr 2
      rw [decide_eq_decide]
      conv => rhs; rw [hsp]
      simp [hk]
    refine ⟨?_, by rw [raSet_is]; exact h1⟩
    show raAt (raSet ⟨R.len, R.ever, R.freed.take (R.freed.length - 1), R.nodes⟩ (lastI R.freed) nd0).1 k = _
    rw [raSet_at' hok, if_neg (fun h => hk h.2)]
    unfold raAt
    rw [h1]
theorem raFree_all {R : RA} (ok : RaOk R) {i : Int} (hi : raIs R i = true) : (∀ k, k ≠ i → raAt (raFree R i).1 k = raAt R k ∧ raIs (raFree R i).1 k = raIs R k) ∧ raIs (raFree R i).1 i = false ∧ raAt (raFree R i).1 i = nd0 := by
  have hf : raFree R i = (⟨R.len, R.ever, R.freed ++ [i], R.nodes⟩, true) := if_pos hi
  rw [hf]
  have h1 : raIs ⟨R.len, R.ever, R.freed ++ [i], R.nodes⟩ i = false := by unfold raIs; simp
  refine ⟨fun k hk => ?_, h1, by unfold raAt; rw [h1]; rfl⟩
  have h2 : raIs ⟨R.len, R.ever, R.freed ++ [i], R.nodes⟩ k = raIs R k := by unfold raIs; simp [hk]
  refine ⟨?_, h2⟩
  unfold raAt
  rw [h2]
section
variable {R R' : RA} {rows : List Rw} {ls : List (List Int)} {T : Tb}
theorem LInv.swap (h : LInv R rows ls) (ok : RaOk R') (hin : ∀ (t : Nat) (l : List Int), ls[t]? = some l → ∀ k ∈ l, raIs R' k = true ∧ (raAt R' k).tag = (raAt R k).tag ∧ (raAt R' k).prev = (raAt R k).prev ∧ (raAt R' k).next = (raAt R k).next)
    (hno : ∀ k, (∀ (t : Nat) (l : List Int), ls[t]? = some l → k ∉ l) → (raAt R' k).tag = 0 ∧ (raAt R' k).prev = 0 ∧ (raAt R' k).next = 0) : LInv R' rows ls := by
  refine ⟨ok, h.len, h.row, fun t l hl k hk => (hin t l hl k hk).1, h.one, h.apart, fun t l hl p i hp => ?_, hno⟩
  obtain ⟨_, e1, e2, e3⟩ := hin t l hl i (List.mem_of_getElem? hp)
  rw [e1, e2, e3]
  exact h.node t l hl p i hp
/-- What a store keeps: lists of slots, a table of keys: each slot that is taken is in a list, and its key's. -/
structure SInv (R : RA) (rows : List Rw) (ls : List (List Int)) (T : Tb) : Prop where
  inv : LInv R rows ls
  ok : HOk T
  emp : Emp T
  tab : ∀ k i, Mem T ⟨k, i, true⟩ ↔ raIs R i = true ∧ (raAt R i).key = k
  all : ∀ i, raIs R i = true → (raAt R i).tag ≠ 0
def nodeI (T : Tb) (k : Int) : Int := (sl T (hF T k)).n
theorem SInv.node (h : SInv R rows ls T) (k : Int) : (raIs R (nodeI T k) = true ∧ (raAt R (nodeI T k)).key = k ∧ nodeI T k ≠ 0 ∧ (sl T (hF T k)).full = true) ∨ (nodeI T k = 0 ∧ (sl T (hF T k)).full = false ∧ ∀ i, raIs R i = true → (raAt R i).key ≠ k) := by
  obtain ⟨h1, h2⟩ := h.ok.there k
  cases hf : (sl T (hF T k)).full with
  | true =>
    obtain ⟨m, e⟩ := h1 hf
    have : sl T (hF T k) = ⟨k, nodeI T k, true⟩ := by
      unfold nodeI
      cases hs : sl T (hF T k) with
      | mk a b c => rw [hs] at e hf; simp at e hf; rw [e, hf]
    rw [this] at m
    obtain ⟨g1, g2⟩ := (h.tab _ _).1 m
    exact .inl ⟨g1, g2, live_ne h.inv.ok g1, rfl⟩
  | false =>
    refine .inr ⟨?_, rfl, fun i hi hk => h2 hf _ ((h.tab k i).2 ⟨hi, hk⟩) rfl⟩
    have := h.emp _ (h.ok.find k).lt hf
    unfold nodeI
    rw [this]; rfl
theorem SInv.uniq (h : SInv R rows ls T) {i j : Int} (hi : raIs R i = true) (hj : raIs R j = true) (e : (raAt R i).key = (raAt R j).key) : i = j := by
  have a := (h.tab _ i).2 ⟨hi, rfl⟩
  have b := (h.tab _ j).2 ⟨hj, e.symm⟩
  obtain ⟨_, r, r1, r2⟩ := a
  obtain ⟨_, s, s1, s2⟩ := b
  have := h.ok.inv.apart r s r1 s1 (by rw [r2]) (by rw [s2]) (by rw [r2, s2])
  rw [this, s2] at r2
  simpa using r2.symm
theorem SInv.in_list (h : SInv R rows ls T) {i : Int} (hi : raIs R i = true) : ∃ (t : Nat) (l : List Int) (q : Nat), ls[t]? = some l ∧ l[q]? = some i ∧ (raAt R i).tag = (t : Int) + 1 := by
  rcases h.inv.tagD i with h1 | ⟨_, h3⟩
  · exact h1
  · exact absurd h3 (h.all i hi)
/-- The arena, a slot taken for a key. -/
def pshR (R : RA) (k : Int) : RA := (raSet (raAlloc R).1 (raAlloc R).2 ⟨k, 0, 0, 0, 0, 0⟩).1
theorem pshR_all (ok : RaOk R) (k : Int) : RaOk (pshR R k) ∧ raIs R (raAlloc R).2 = false ∧ raIs (pshR R k) (raAlloc R).2 = true ∧ raAt (pshR R k) (raAlloc R).2 = ⟨k, 0, 0, 0, 0, 0⟩ ∧ ∀ j, j ≠ (raAlloc R).2 → raAt (pshR R k) j = raAt R j ∧ raIs (pshR R k) j = raIs R j := by
  obtain ⟨_, a2, a3, a4, a5⟩ := arAlloc_of ok
  obtain ⟨b1, b2, b3⟩ := raAlloc_all ok
  unfold pshR
  refine ⟨(arSet_of a2 _ _).2, a3, by rw [raSet_is]; exact a4, by rw [raSet_at' a2, if_pos ⟨a4, rfl⟩], fun j hj => ?_⟩
  rw [raSet_at' a2, if_neg (fun h => hj h.2), raSet_is]
  exact b3 j hj
theorem LInv.psh (h : LInv R rows ls) (k : Int) : LInv (pshR R k) rows ls := by
  obtain ⟨p1, p2, p3, p4, p5⟩ := pshR_all h.ok k
  refine h.swap p1 (fun t l hl j hj => ?_) (fun j hj => ?_)
  · have hl := h.live t l hl j hj
    have hne : j ≠ (raAlloc R).2 := fun e => by rw [e, p2] at hl; cases hl
    exact ⟨by rw [(p5 j hne).2]; exact hl, by rw [(p5 j hne).1], by rw [(p5 j hne).1], by rw [(p5 j hne).1]⟩
  · by_cases e : j = (raAlloc R).2
    · rw [e, p4]; exact ⟨rfl, rfl, rfl⟩
    · rw [(p5 j e).1]; exact h.none j hj
end
end Go.Al
