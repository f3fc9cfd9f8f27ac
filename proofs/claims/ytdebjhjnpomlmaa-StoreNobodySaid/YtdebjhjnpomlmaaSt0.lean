/- Lists of places: each act's lists, of rows alone. Conditions: none. -/
import Derived.Test.YtdebjhjnpomlmaaIz4
set_option linter.unusedVariables false
set_option linter.unusedSimpArgs false
set_option maxHeartbeats 1600000
namespace Go.Al
def placeI (l : List Int) (i : Int) : Int := if i ∈ l then l.idxOf i else -1
theorem placeI_at {l : List Int} (nd : l.Nodup) {p : Nat} {i : Int} (h : l[p]? = some i) : placeI l i = p := by
  have hm := List.mem_of_getElem? h
  unfold placeI
  rw [if_pos hm]
  have hlt := List.idxOf_lt_length_iff.2 hm
  have h1 : l[l.idxOf i]? = some i := by rw [List.getElem?_eq_getElem hlt, List.getElem_idxOf hlt]
  have := (List.getElem?_inj hlt nd).1 (h1.trans h.symm)
  rw [this]
section
variable {R A : RA} {rows : List Rw} {ls : List (List Int)}
def offL (R : RA) (rows : List Rw) (ls : List (List Int)) (i : Int) : List (List Int) :=
  if offOk R rows i then ls.set ((raAt R i).tag - 1).toNat ((ls.getD ((raAt R i).tag - 1).toNat []).eraseIdx ((ls.getD ((raAt R i).tag - 1).toNat []).idxOf i)) else ls
theorem LInv.offL (inv : LInv R rows ls) (i : Int) : LInv (offS R rows i).1 (offS R rows i).2 (Al.offL R rows ls i) ∧ (Al.offL R rows ls i).length = ls.length := by
  by_cases ho : offOk R rows i = true
  · obtain ⟨t, l, q, h1, h2, h3, h4⟩ := inv.take ho
    have ht : ((raAt R i).tag - 1).toNat = t := by omega
    have hg : ls.getD t [] = l := by rw [List.getD_eq_getElem?_getD, h1]; rfl
    have hq : l.idxOf i = q := by
      have := placeI_at (inv.one _ _ h1) h2
      unfold placeI at this
      rw [if_pos (List.mem_of_getElem? h2)] at this
      omega
    unfold Al.offL
    rw [if_pos ho, ht, hg, hq]
    exact ⟨h4, by simp⟩
  · have e : offS R rows i = (R, rows) := if_neg ho
    have e2 : Al.offL R rows ls i = ls := if_neg ho
    rw [e, e2]
    exact ⟨inv, rfl⟩
end
def mvL (R : RA) (rows : List Rw) (ls : List (List Int)) (t i : Int) : List (List Int) :=
  if 0 ≤ t ∧ t < rows.length then (if offOk R rows i then (if layOk (offS R rows i).1 (offS R rows i).2 t i then pushL (offL R rows ls i) t i true else offL R rows ls i) else ls) else ls
section
variable {R A : RA} {rows : List Rw} {ls : List (List Int)}
theorem pushL_len (ls : List (List Int)) (t i : Int) (f : Bool) : (pushL ls t i f).length = ls.length := by simp [pushL]
theorem LInv.pushFL (inv : LInv R rows ls) (t i : Int) : LInv (layS R rows t 0 i (frontR rows t)).1 (layS R rows t 0 i (frontR rows t)).2 (if layOk R rows t i then pushL ls t i true else ls) := by
  by_cases hlo : layOk R rows t i = true
  · rw [if_pos hlo]; exact inv.pushF hlo
  · have e : ∀ p n, layS R rows t p i n = (R, rows) := fun p n => if_neg hlo
    rw [if_neg hlo, e]; exact inv
theorem LInv.mvL (inv : LInv R rows ls) (t i : Int) : LInv (mvS R rows t i).1 (mvS R rows t i).2 (Al.mvL R rows ls t i) ∧ (Al.mvL R rows ls t i).length = ls.length := by
  obtain ⟨h1, h2⟩ := inv.offL i
  unfold mvS Al.mvL
  split
  · split
    · refine ⟨h1.pushFL t i, ?_⟩
      split
      · rw [pushL_len, h2]
      · exact h2
    · exact ⟨inv, rfl⟩
  · exact ⟨inv, rfl⟩
end
end Go.Al
