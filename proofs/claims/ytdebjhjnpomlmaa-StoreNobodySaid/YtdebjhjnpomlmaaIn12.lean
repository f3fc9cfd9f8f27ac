/- Lists of places: as many in lists as there are places with a list's tag, of rows alone. Conditions: none. -/
import Derived.Test.YtdebjhjnpomlmaaIn4
set_option linter.unusedVariables false
set_option linter.unusedSimpArgs false
set_option maxHeartbeats 1600000
namespace Go.Al
theorem sub_len : ∀ (a b : List Int), a.Nodup → (∀ x ∈ a, x ∈ b) → a.length ≤ b.length
  | [], b, _, _ => by simp
  | x :: a, b, hn, hs => by
    have hx := hs x (by simp)
    have h := sub_len a (b.erase x) (List.nodup_cons.1 hn).2 (fun y hy => by
      have hne : y ≠ x := fun e => (List.nodup_cons.1 hn).1 (by rw [← e]; exact hy)
      exact (List.mem_erase_of_ne hne).2 (hs y (by simp [hy])))
    have h1 := List.length_erase_of_mem hx
    have h2 := List.length_pos_of_mem hx
    simp only [List.length_cons]
    omega
/-- How many of the first k places have a list's tag. -/
def cntT (R : RA) (k : Nat) : Nat := ((List.range k).filter (fun j : Nat => decide (0 < (raAt R ((j : Int) + 1)).tag))).length
theorem cntT_succ (R : RA) (k : Nat) : cntT R (k + 1) = cntT R k + if 0 < (raAt R ((k : Int) + 1)).tag then 1 else 0 := by
  unfold cntT
  rw [List.range_succ, List.filter_append, List.length_append]
  by_cases h : 0 < (raAt R ((k : Int) + 1)).tag <;> simp [h]
theorem cntT_le (R : RA) (k : Nat) : cntT R k ≤ k := by
  unfold cntT
  have := List.length_filter_le (fun j : Nat => decide (0 < (raAt R ((j : Int) + 1)).tag)) (List.range k)
  simpa using this
theorem cntT_all {R : RA} {rows : List Rw} {ls : List (List Int)} (h : LInv R rows ls) (h3 : ls.length ≤ 3) {m : Nat} (he : R.ever = m) :
    cntT R m = (ls.getD 0 []).length + (ls.getD 1 []).length + (ls.getD 2 []).length := by
  have get : ∀ (t : Nat) (x : Int), x ∈ ls.getD t [] → ∃ l, ls[t]? = some l ∧ x ∈ l ∧ ls.getD t [] = l := by
    intro t x hx
    rw [List.getD_eq_getElem?_getD] at hx ⊢
    cases e : ls[t]? with
    | none => rw [e] at hx; simp at hx
    | some l => rw [e] at hx; exact ⟨l, rfl, hx, rfl⟩
  have nd : ∀ t : Nat, (ls.getD t []).Nodup := by
    intro t
    rw [List.getD_eq_getElem?_getD]
    cases e : ls[t]? with
    | none => simp
    | some l => exact h.one t l e
  have dis : ∀ (t u : Nat), t ≠ u → ∀ x ∈ ls.getD t [], ∀ y ∈ ls.getD u [], x ≠ y := by
    intro t u htu x hx y hy e
    obtain ⟨l, h1, h2, _⟩ := get t x hx
    obtain ⟨m, k1, k2, _⟩ := get u y hy
    exact htu (h.apart t u l m h1 k1 x h2 (by rw [e]; exact k2))
  have hA : (ls.getD 0 [] ++ ls.getD 1 [] ++ ls.getD 2 []).Nodup := by
    rw [List.nodup_append, List.nodup_append]
    refine ⟨⟨nd 0, nd 1, dis 0 1 (by omega)⟩, nd 2, fun x hx y hy => ?_⟩
    rcases List.mem_append.1 hx with hx | hx
    · exact dis 0 2 (by omega) x hx y hy
    · exact dis 1 2 (by omega) x hx y hy
  have hB : (((List.range m).filter (fun j : Nat => decide (0 < (raAt R ((j : Int) + 1)).tag))).map (fun j : Nat => (j : Int) + 1)).Nodup := by
    refine List.Pairwise.map _ (fun a b hab e => hab ?_) ((List.nodup_range (n := m)).filter _)
    omega
  have hAB : ∀ x ∈ ls.getD 0 [] ++ ls.getD 1 [] ++ ls.getD 2 [], x ∈ ((List.range m).filter (fun j : Nat => decide (0 < (raAt R ((j : Int) + 1)).tag))).map (fun j : Nat => (j : Int) + 1) := by
    have one : ∀ (t : Nat) (x : Int), x ∈ ls.getD t [] → x ∈ ((List.range m).filter (fun j : Nat => decide (0 < (raAt R ((j : Int) + 1)).tag))).map (fun j : Nat => (j : Int) + 1) := by
      intro t x hx
      obtain ⟨l, h1, h2, _⟩ := get t x hx
      obtain ⟨g0, g1, _⟩ := ra_rng h.ok (h.live t l h1 x h2)
      obtain ⟨p, hp⟩ := List.getElem?_of_mem h2
      have ht := (h.node t l h1 p x hp).1
      refine List.mem_map.2 ⟨(x - 1).toNat, List.mem_filter.2 ⟨List.mem_range.2 (by omega), ?_⟩, by omega⟩
      have e : (((x - 1).toNat : Nat) : Int) + 1 = x := by omega
      rw [e, ht]
      exact decide_eq_true (by omega)
    intro x hx
    rcases List.mem_append.1 hx with hx | hx
    · rcases List.mem_append.1 hx with hx | hx
      · exact one 0 x hx
      · exact one 1 x hx
    · exact one 2 x hx
  have hBA : ∀ x ∈ ((List.range m).filter (fun j : Nat => decide (0 < (raAt R ((j : Int) + 1)).tag))).map (fun j : Nat => (j : Int) + 1), x ∈ ls.getD 0 [] ++ ls.getD 1 [] ++ ls.getD 2 [] := by
    intro x hx
    obtain ⟨j, hj, rfl⟩ := List.mem_map.1 hx
    have htag := of_decide_eq_true (List.mem_filter.1 hj).2
    by_cases hin : ∀ (t : Nat) (l : List Int), ls[t]? = some l → ((j : Int) + 1) ∉ l
    · have := (h.none _ hin).1
      omega
    · have ⟨t, l, h1, h2⟩ : ∃ (t : Nat) (l : List Int), ls[t]? = some l ∧ ((j : Int) + 1) ∈ l := by
        refine Classical.byContradiction fun hno => hin fun t l h1 h2 => hno ⟨t, l, h1, h2⟩
      have hlt := (List.getElem?_eq_some_iff.1 h1).1
      have hg : ls.getD t [] = l := by rw [List.getD_eq_getElem?_getD, h1]; rfl
      rcases (show t = 0 ∨ t = 1 ∨ t = 2 by omega) with rfl | rfl | rfl
      · exact List.mem_append_left _ (List.mem_append_left _ (by rw [hg]; exact h2))
      · exact List.mem_append_left _ (List.mem_append_right _ (by rw [hg]; exact h2))
      · exact List.mem_append_right _ (by rw [hg]; exact h2)
  have l1 := sub_len _ _ hA hAB
  have l2 := sub_len _ _ hB hBA
  simp only [List.length_append, List.length_map] at l1 l2
  unfold cntT
  omega
end Go.Al
