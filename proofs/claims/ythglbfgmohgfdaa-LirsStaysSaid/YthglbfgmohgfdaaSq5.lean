/- seq.Without with its row told exactly; slices.Insert at the front of nothing. Conditions: the row has a million elements at most. -/
import Derived.Test.YthglbfgmohgfdaaSq4
set_option linter.unusedVariables false
set_option linter.unusedSimpArgs false
namespace Go.Al
open Go.Proofs
def WithoutX (l : List Int) (v : Int) (n : Nat) (r : AV) (H' : AH) (n' : Nat) : Prop :=
  (without l v = [] ∧ r = .sc (.slice none 0 0)) ∨ ∃ id, n ≤ id ∧ id < n' ∧ r = .sl id 1 0 (without l v).length ∧ H' id = some (.obj 35 1 (U (without l v)) false)
theorem cWithoutX (l : List Int) (v : Int) (hl : l.length ≤ 1000000) (H : AH) (n : Nat) :
    HCalls Try.prog 42 [.lst 1 (U l), .sc (.int .u64 v)] H n (WithoutX l v n) := by
  refine (cWithoutH l v hl H n).shrink ?_
  rintro r H' n' (⟨h1, h2⟩ | ⟨id, es, h1, h2, h3, h4⟩)
  · exact .inl (.inl ⟨h1, h2⟩)
  · refine .inr ⟨id, _, _, _, (U (without l v)).length, h4, .inr ⟨id, h1, h2, h3, ?_⟩⟩
    rw [upd_same, List.take_left]
end Go.Al
