/- What the reference's lists come to, and the program's. Conditions: the rows are short of a billion elements. -/
import Derived.Test.YthglbfgmohgfdaaSq8
set_option linter.unusedVariables false
set_option linter.unusedSimpArgs false
namespace Go.Al
open Go.Proofs
theorem lastIdx {α : Type} {l : List α} (h : l ≠ []) (hl : l.length ≤ 1099511627776) : ∃ x, l[l.length - 1]? = some x ∧ l = l.take (l.length - 1) ++ [x] ∧ IntKind.i64.wrap ((l.length : Int) - 1) = ((l.length - 1 : Nat) : Int) ∧ (0 : Int) ≤ ((l.length - 1 : Nat) : Int) ∧ ((l.length - 1 : Nat) : Int) < l.length ∧ ((l.length - 1 : Nat) : Int) ≤ l.length := by
  have h0 : 0 < l.length := List.length_pos_iff.2 h
  obtain ⟨x, hx, _, _, _, hT, _⟩ := idx (l := l) (p := l.length - 1) (by omega) hl
  refine ⟨x, hx, ?_, ?_, by omega, by omega, by omega⟩
  · rw [Nat.sub_add_cancel h0, List.take_length] at hT; exact hT
  · rw [wrap_in (by omega) (by omega)]; omega
/-- The first so many keys are left; the others fall, the last one first. -/
def cutTo (l : List Int) (n : Int) : List Int := l.take (max n 0).toNat
def fallen (l : List Int) (n : Int) : List Int := (l.drop (max n 0).toNat).reverse
end Go.Al
