/- What an act evicts, and what stays: of rows of keys alone. Conditions: none. -/
import Derived.Test.YthglbfgmohgfdaaAc1
set_option linter.unusedVariables false
set_option linter.unusedSimpArgs false
namespace Go.Al
/-- What was there, what is, and what was evicted, of an act's kind. -/
structure EvOk (was is out : List Int) (kind : Int) (there : Bool) (key size : Int) : Prop where
  e1 : ∀ x ∈ out, x ∈ was ∧ x ∉ is
  e2 : ∀ x ∈ was, x ∈ out ∨ x ∈ is ∨ (kind = 3 ∧ x = key)
  ap : apart out = true
  len : (is.length : Int) = was.length - out.length + (if kind = 2 ∧ there = false then 1 else 0) - (if kind = 3 ∧ there = true then 1 else 0)
  sz : kind = 4 → (out.length : Int) = max ((was.length : Int) - size) 0
theorem cut_split (l : List Int) (z : Int) : cutTo l z ++ (fallen l z).reverse = l := by unfold cutTo fallen; simp
theorem cut_len (l : List Int) (z : Int) : (cutTo l z).length + (fallen l z).length = l.length := by
  have := congrArg List.length (cut_split l z)
  simpa using this
theorem cut_mem (l : List Int) (z x : Int) : x ∈ l ↔ x ∈ cutTo l z ∨ x ∈ fallen l z := by
  conv => lhs; rw [← cut_split l z]
  simp
theorem cut_apart {l : List Int} (z : Int) (h : l.Nodup) : (cutTo l z).Nodup ∧ (fallen l z).Nodup ∧ ∀ x ∈ fallen l z, x ∉ cutTo l z := by
  rw [← cut_split l z, List.nodup_append] at h
  refine ⟨h.1, (List.pairwise_reverse.1 h.2.1).imp fun h => Ne.symm h, fun x hx hc => h.2.2 x hc x (by simpa using hx) rfl⟩
theorem mem_without {l : List Int} {k x : Int} : x ∈ without l k ↔ x ∈ l ∧ x ≠ k := by simp [without]
theorem mem_front {l : List Int} {k x : Int} : x ∈ k :: without l k ↔ x = k ∨ x ∈ l := by
  rw [List.mem_cons, mem_without]
  by_cases h : x = k <;> simp [h]
theorem without_same {l : List Int} {k : Int} (h : k ∉ l) : without l k = l := by
  unfold without
  rw [List.filter_eq_self]
  intro x hx
  simp only [decide_eq_true_eq]
  rintro rfl
  exact h hx
theorem front_len {l : List Int} {k : Int} (h : l.Nodup) (hk : k ∈ l) : (k :: without l k).length = l.length := by
  have := without_mem_len h hk
  have : 0 < l.length := List.length_pos_iff.2 (List.ne_nil_of_mem hk)
  rw [List.length_cons]; omega
end Go.Al
