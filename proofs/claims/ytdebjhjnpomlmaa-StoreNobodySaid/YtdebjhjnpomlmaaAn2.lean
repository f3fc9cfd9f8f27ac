/- Slots that are taken and freed: the program's rows are the reference's. Conditions: none. -/
import Derived.Test.YtdebjhjnpomlmaaAn1
set_option linter.unusedVariables false
set_option linter.unusedSimpArgs false
namespace Go.Al
theorem slots_set {R R' : RA} {j : Nat} {v : Slt} (hl : R'.len = R.len) (h1 : slotR R' j = v) (h2 : ∀ i, i ≠ j → slotR R' i = slotR R i) :
    ((List.range R.len.toNat).map (slotR R)).set j v = (List.range R'.len.toNat).map (slotR R') := by
  apply List.ext_getElem?
  intro i
  rw [hl, List.getElem?_set]
  by_cases e : j = i
  · subst e
    by_cases hj : j < R.len.toNat
    · simp [hj, h1]
    · simp [hj]
  · rw [if_neg e]
    by_cases hi : i < R.len.toNat
    · simp [hi, h2 i (fun h => e h.symm)]
    · simp [hi]
theorem slots_len (R : RA) : (arnOf R).slots.length = R.len.toNat := by simp [arnOf]
theorem slots_get (R : RA) (i : Nat) (hi : i < R.len.toNat) : (arnOf R).slots.getD i slt0 = slotR R i := by
  simp [arnOf, List.getD_eq_getElem?_getD, hi]
theorem ra_rng {R : RA} (h : RaOk R) {i : Int} (hi : raIs R i = true) : 0 < i ∧ i ≤ R.ever ∧ i ∉ R.freed := by
  unfold raIs at hi
  simpa [and_assoc] using hi
theorem ra_of {R : RA} {i : Int} (h0 : 0 < i) (h1 : i ≤ R.ever) (h2 : i ∉ R.freed) : raIs R i = true := by
  unfold raIs
  simp [h0, h1, h2]
theorem arIs_of {R : RA} (h : RaOk R) (i : Int) : arIs (arnOf R) i = raIs R i := by
  have e1 := h.e1
  unfold arIs
  rw [slots_len]
  by_cases h0 : 0 < i
  · by_cases h1 : i < R.len
    · have h2 : i < (R.len.toNat : Int) := by omega
      rw [slots_get R _ (by omega)]
      unfold slotR
      rw [show ((i.toNat : Nat) : Int) = i from by omega]
      rw [decide_eq_true h0, decide_eq_true h2]
      by_cases hr : raIs R i = true
      · simp [hr]
      · simp only [Bool.not_eq_true] at hr
        simp [hr, slt0]
    · have h2 : ¬ i < (R.len.toNat : Int) := by have := h.e0; omega
      have : raIs R i = false := by
        rw [Bool.eq_false_iff]
        intro hr
        have := ra_rng h hr
        omega
      rw [decide_eq_false h2, this]
      simp
  · have : raIs R i = false := by
      rw [Bool.eq_false_iff]
      intro hr
      have := ra_rng h hr
      omega
    simp [h0, this]
theorem slotR_in {R : RA} {i : Int} (h0 : 0 ≤ i) : slotR R i.toNat = if raIs R i then ⟨R.nodes.getD i.toNat nd0, true⟩ else slt0 := by
  unfold slotR
  rw [show ((i.toNat : Nat) : Int) = i from by omega]
theorem arAt_of {R : RA} (h : RaOk R) (i : Int) : arAt (arnOf R) i = raAt R i := by
  unfold arAt raAt
  rw [arIs_of h]
  by_cases hr : raIs R i = true
  · have h1 := ra_rng h hr
    have h2 := h.e1
    rw [if_pos hr, if_pos hr, slots_get R _ (by omega), slotR_in (by omega), if_pos hr]
  · rw [if_neg hr, if_neg hr]
theorem arSet_of {R : RA} (h : RaOk R) (i : Int) (x : Nd) : arSet (arnOf R) i x = (arnOf (raSet R i x).1, (raSet R i x).2) ∧ RaOk (raSet R i x).1 := by
  unfold arSet raSet
  rw [arIs_of h]
  by_cases hr : raIs R i = true
  · have h1 := ra_rng h hr
    have h2 := h.e1
    have h3 := h.nd
    rw [if_pos hr, if_pos hr]
    refine ⟨?_, ⟨h.e0, h.e1, by simp [h.nd], h.fr, h.dup⟩⟩
    have hs : ∀ j : Int, raIs ⟨R.len, R.ever, R.freed, R.nodes.set i.toNat x⟩ j = raIs R j := fun j => rfl
    have := slots_set (R := R) (R' := ⟨R.len, R.ever, R.freed, R.nodes.set i.toNat x⟩) (j := i.toNat) (v := ⟨x, true⟩) rfl (by
      rw [slotR_in (by omega), hs, if_pos hr]
      have : i.toNat < R.nodes.length := by omega
      simp [List.getD_eq_getElem?_getD, this]) (by
      intro k hk
      unfold slotR
      rw [hs]
      have : ¬ i.toNat = k := fun e => hk e.symm
      simp [List.getD_eq_getElem?_getD, List.getElem?_set, this])
    simp only [arnOf]
    rw [this]
    rfl
  · rw [if_neg hr, if_neg hr]
    exact ⟨rfl, h⟩
theorem arFree_of {R : RA} (h : RaOk R) (i : Int) : arFree (arnOf R) i = (arnOf (raFree R i).1, (raFree R i).2) ∧ RaOk (raFree R i).1 := by
  unfold arFree raFree
  rw [arIs_of h]
  by_cases hr : raIs R i = true
  · have h1 := ra_rng h hr
    have h2 := h.e1
    rw [if_pos hr, if_pos hr]
    refine ⟨?_, ⟨h.e0, h.e1, h.nd, ?_, ?_⟩⟩
    · have := slots_set (R := R) (R' := ⟨R.len, R.ever, R.freed ++ [i], R.nodes⟩) (j := i.toNat) (v := slt0) rfl (by
        rw [slotR_in (by omega)]
        unfold raIs
        simp) (by
        intro k hk
        unfold slotR raIs
        have : ¬ (k : Int) = i := fun e => hk (by omega)
        simp [this])
      simp only [arnOf]
      rw [this]
      simp [raLive]
      omega
    · intro j hj
      rcases List.mem_append.1 hj with hj | hj
      · exact h.fr j hj
      · rw [List.mem_singleton] at hj
        subst hj
        exact ⟨h1.1, h1.2.1⟩
    · show (R.freed ++ [i]).Nodup
      rw [List.nodup_append]
      refine ⟨h.dup, by simp, ?_⟩
      rintro a ha b hb rfl
      rw [List.mem_singleton] at hb
      subst hb
      exact h1.2.2 ha
  · rw [if_neg hr, if_neg hr]
    exact ⟨rfl, h⟩
theorem split_last {l : List Int} (h : l ≠ []) : l = l.take (l.length - 1) ++ [lastI l] := by
  have h0 := List.length_pos_iff.2 h
  have h1 := lastI_get h
  have := List.take_add_one (l := l) (i := l.length - 1)
  rw [h1, Nat.sub_add_cancel h0, List.take_length] at this
  simpa using this
theorem arAlloc_of {R : RA} (h : RaOk R) : arAlloc (arnOf R) = (arnOf (raAlloc R).1, (raAlloc R).2) ∧ RaOk (raAlloc R).1 ∧ raIs R (raAlloc R).2 = false ∧ raIs (raAlloc R).1 (raAlloc R).2 = true ∧ raAt (raAlloc R).1 (raAlloc R).2 = nd0 := by
  have e0 := h.e0
  have e1 := h.e1
  unfold arAlloc raAlloc
  by_cases hf : R.freed = []
  · have h1 : ¬ (arnOf R).freed ≠ [] := by simp [arnOf, hf]
    have h2 : ¬ R.freed ≠ [] := by simp [hf]
    rw [if_neg h1, if_neg h2]
    have hnext : (arnOf R).next = R.ever + 1 := rfl
    have hlive : (arnOf R).live = R.ever := by simp [arnOf, raLive, hf]
    have hold : raIs R (R.ever + 1) = false := by
      rw [Bool.eq_false_iff]
      intro hr
      have := ra_rng h hr
      omega
    have hnew : ∀ L : Int, raIs ⟨L, R.ever + 1, [], R.nodes ++ [nd0]⟩ (R.ever + 1) = true := fun L => ra_of (by omega) (by show R.ever + 1 ≤ R.ever + 1; omega) (by simp)
    have hnn : (R.nodes ++ [nd0]).getD (R.ever + 1).toNat nd0 = nd0 := by
      have : (R.ever + 1).toNat = R.nodes.length := by rw [h.nd]; omega
      rw [this]
      simp [List.getD_eq_getElem?_getD]
    have hkeep : ∀ (L : Int) (i : Nat), i ≠ (R.ever + 1).toNat → slotR ⟨L, R.ever + 1, [], R.nodes ++ [nd0]⟩ i = slotR R i := by
      intro L i hi
      unfold slotR raIs
      rw [hf]
      have hb : decide ((i : Int) ≤ R.ever + 1) = decide ((i : Int) ≤ R.ever) := by
        rw [decide_eq_decide]; omega
      simp only [hb]
      by_cases hc : (i : Int) ≤ R.ever
      · have : i < R.nodes.length := by rw [h.nd]; omega
        simp [List.getD_eq_getElem?_getD, List.getElem?_append_left this]
      · simp [hc]
    have hself : ∀ (L : Int), slotR ⟨L, R.ever + 1, [], R.nodes ++ [nd0]⟩ (R.ever + 1).toNat = ⟨nd0, true⟩ := by
      intro L
      rw [slotR_in (by omega), if_pos (hnew L), hnn]
    have hat : ∀ (L : Int), raAt ⟨L, R.ever + 1, [], R.nodes ++ [nd0]⟩ (R.ever + 1) = nd0 := by
      intro L
      unfold raAt
      rw [if_pos (hnew L)]
      exact hnn
    rw [hnext, hlive, slots_len]
    by_cases hg : R.ever + 1 = (R.len.toNat : Int)
    · have hg2 : R.ever + 1 ≥ R.len := by omega
      rw [if_pos hg, if_pos hg2]
      refine ⟨?_, ⟨by show 0 ≤ R.ever + 1; omega, by show R.ever + 1 < 2 * R.len; omega, by show (R.nodes ++ [nd0]).length = (R.ever + 1).toNat + 1; rw [List.length_append, h.nd]; simp; omega, by simp, by simp⟩, hold, hnew _, hat _⟩
      have hd : (arnOf R).slots ++ List.replicate R.len.toNat slt0 = (List.range (2 * R.len).toNat).map (slotR ⟨2 * R.len, R.ever, R.freed, R.nodes⟩) := by
        apply List.ext_getElem?
        intro i
        rw [List.getElem?_append, slots_len]
        by_cases hi : i < R.len.toNat
        · rw [if_pos hi]
          have hi2 : i < (2 * R.len).toNat := by omega
          simp [arnOf, hi, hi2]
          rfl
        · rw [if_neg hi]
          by_cases hi2 : i < (2 * R.len).toNat
          · have hi3 : i - R.len.toNat < R.len.toNat := by omega
            have hne : ¬ (i : Int) ≤ R.ever := by omega
            simp [hi2, List.getElem?_replicate, hi3, slotR, raIs, hne]
          · have hi3 : ¬ i - R.len.toNat < R.len.toNat := by omega
            simp [hi2, List.getElem?_replicate, hi3]
      rw [hd]
      have := slots_set (R := ⟨2 * R.len, R.ever, R.freed, R.nodes⟩) (R' := ⟨2 * R.len, R.ever + 1, [], R.nodes ++ [nd0]⟩) (j := (R.ever + 1).toNat) (v := ⟨nd0, true⟩) rfl (hself _) (fun i hi => hkeep _ i hi)
      rw [this]
      simp [arnOf, raLive]
    · have hg2 : ¬ R.ever + 1 ≥ R.len := by omega
      rw [if_neg hg, if_neg hg2]
      refine ⟨?_, ⟨by show 0 ≤ R.ever + 1; omega, by show R.ever + 1 < R.len; omega, by show (R.nodes ++ [nd0]).length = (R.ever + 1).toNat + 1; rw [List.length_append, h.nd]; simp; omega, by simp, by simp⟩, hold, hnew _, hat _⟩
      have := slots_set (R := R) (R' := ⟨R.len, R.ever + 1, [], R.nodes ++ [nd0]⟩) (j := (R.ever + 1).toNat) (v := ⟨nd0, true⟩) rfl (hself _) (fun i hi => hkeep _ i hi)
      have he : (arnOf R).slots = (List.range R.len.toNat).map (slotR R) := rfl
      rw [he, this]
      simp [arnOf, raLive]
  · have h1 : (arnOf R).freed ≠ [] := hf
    rw [if_pos h1, if_pos hf]
    have hsp := split_last hf
    have hm : lastI R.freed ∈ R.freed := List.mem_of_getElem? (lastI_get hf)
    obtain ⟨q0, q1⟩ := h.fr _ hm
    have hdup := h.dup
    rw [hsp, List.nodup_append] at hdup
    have hnot : lastI R.freed ∉ R.freed.take (R.freed.length - 1) := fun hc => hdup.2.2 _ hc _ (by simp) rfl
    have hok : RaOk ⟨R.len, R.ever, R.freed.take (R.freed.length - 1), R.nodes⟩ := ⟨h.e0, h.e1, h.nd, fun i hi => h.fr i (List.mem_of_mem_take hi), hdup.1⟩
    have his : raIs ⟨R.len, R.ever, R.freed.take (R.freed.length - 1), R.nodes⟩ (lastI R.freed) = true := ra_of q0 q1 hnot
    have hold : raIs R (lastI R.freed) = false := by unfold raIs; simp [hm]
    have hset : raSet ⟨R.len, R.ever, R.freed.take (R.freed.length - 1), R.nodes⟩ (lastI R.freed) nd0 = (⟨R.len, R.ever, R.freed.take (R.freed.length - 1), R.nodes.set (lastI R.freed).toNat nd0⟩, true) := by
      unfold raSet
      rw [if_pos his]
    rw [hset]
    refine ⟨?_, ⟨h.e0, h.e1, by simp [h.nd], fun i hi => h.fr i (List.mem_of_mem_take hi), hdup.1⟩, hold, his, ?_⟩
    · have hb : (lastI R.freed).toNat < R.nodes.length := by rw [h.nd]; omega
      have := slots_set (R := R) (R' := ⟨R.len, R.ever, R.freed.take (R.freed.length - 1), R.nodes.set (lastI R.freed).toNat nd0⟩) (j := (lastI R.freed).toNat) (v := ⟨nd0, true⟩) rfl (by
        rw [slotR_in (by omega)]
        have : raIs ⟨R.len, R.ever, R.freed.take (R.freed.length - 1), R.nodes.set (lastI R.freed).toNat nd0⟩ (lastI R.freed) = true := his
        rw [if_pos this]
        simp [List.getD_eq_getElem?_getD, hb]) (by
        intro i hi
        have h3 : ¬ (i : Int) = lastI R.freed := fun e => hi (by omega)
        have h4 : raIs ⟨R.len, R.ever, R.freed.take (R.freed.length - 1), R.nodes.set (lastI R.freed).toNat nd0⟩ i = raIs R i := by
          unfold raIs
          congr 2
          rw [decide_eq_decide]
          conv => rhs; rw [hsp]
          simp [h3]
        have h5 : ¬ (lastI R.freed).toNat = i := fun e => hi e.symm
        unfold slotR
        rw [h4]
        simp [List.getD_eq_getElem?_getD, List.getElem?_set, h5])
      have he : (arnOf R).slots = (List.range R.len.toNat).map (slotR R) := rfl
      have hfr : (arnOf R).freed = R.freed := rfl
      rw [hfr, he, this]
      simp only [arnOf, raLive, List.length_take]
      have := List.length_pos_iff.2 hf
      refine Prod.ext ?_ rfl
      simp only [AR.mk.injEq, true_and]
      omega
    · unfold raAt
      rw [if_pos (show raIs ⟨R.len, R.ever, R.freed.take (R.freed.length - 1), R.nodes.set (lastI R.freed).toNat nd0⟩ (lastI R.freed) = true from his)]
      have hb : (lastI R.freed).toNat < R.nodes.length := by rw [h.nd]; omega
      simp [List.getD_eq_getElem?_getD, hb]
theorem arNew_of (room : Int) : arNew room = arnOf (raNew room) ∧ RaOk (raNew room) := by
  have hr : 1 ≤ (if 1048576 < (if 1 > room then 1 else room) then (1048576 : Int) else (if 1 > room then 1 else room)) := by
    by_cases h : 1 > room <;> simp [h] <;> (try split) <;> omega
  unfold arNew raNew
  generalize (if 1048576 < (if 1 > room then 1 else room) then (1048576 : Int) else (if 1 > room then 1 else room)) = q at *
  refine ⟨?_, ⟨by show (0 : Int) ≤ 0; omega, by show (0 : Int) < 1 + q; omega, rfl, by simp, by simp⟩⟩
  simp only [arnOf, raLive]
  have : (List.range (1 + q).toNat).map (slotR ⟨1 + q, 0, [], [nd0]⟩) = List.replicate (1 + q).toNat slt0 := by
    rw [List.eq_replicate_iff]
    refine ⟨by simp, fun b hb => ?_⟩
    obtain ⟨i, hi, rfl⟩ := List.mem_map.1 hb
    have hr : raIs ⟨1 + q, 0, [], [nd0]⟩ i = false := by
      rw [Bool.eq_false_iff]
      intro hr
      unfold raIs at hr
      simp at hr
      omega
    unfold slotR
    rw [hr]
    rfl
  rw [this]
  simp
theorem pigeon : ∀ (n : Nat) (l : List Int), l.Nodup → (∀ i ∈ l, 0 < i ∧ i ≤ (n : Int)) → l.length ≤ n
  | 0, l, _, h => by
    cases l with
    | nil => simp
    | cons a l => have := h a (by simp); omega
  | n + 1, l, hd, h => by
    by_cases hm : ((n + 1 : Nat) : Int) ∈ l
    · have h1 := pigeon n (l.erase ((n + 1 : Nat) : Int)) (hd.erase _) (fun i hi => by
        have h2 := (List.Nodup.mem_erase_iff hd).1 hi
        have h3 := h i h2.2
        have h4 := h2.1
        omega)
      rw [List.length_erase_of_mem hm] at h1
      omega
    · have := pigeon n l hd (fun i hi => by
        have h3 := h i hi
        have h4 : i ≠ ((n + 1 : Nat) : Int) := fun e => hm (e ▸ hi)
        omega)
      omega
theorem ra_free_len {R : RA} (h : RaOk R) : (R.freed.length : Int) ≤ R.ever := by
  have := pigeon R.ever.toNat R.freed h.dup (fun i hi => by have := h.fr i hi; omega)
  have := h.e0
  omega
theorem arOk_of {R : RA} (h : RaOk R) : ArOk (arnOf R) := by
  have hl := ra_free_len h
  have e0 := h.e0
  have e1 := h.e1
  refine ⟨by show 1 ≤ R.ever + 1; omega, by rw [slots_len]; show R.ever + 1 ≤ _; omega, ?_, by rw [slots_len]; show R.freed.length ≤ _; omega, by show 0 ≤ raLive R; unfold raLive; omega, by rw [slots_len]; show raLive R ≤ _; unfold raLive; omega⟩
  intro i hi
  have := h.fr i hi
  rw [slots_len]
  omega
end Go.Al
