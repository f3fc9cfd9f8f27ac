/-
  No cell of these rows narrows 'for every input' (looked for: loops, veiled, ifaces, maps, wideKeys, modest, calm, conditions, laid).
  DERIVED. THE GIVEN ROWS OF THIS SEAT. 5 by the template 'for every input the law returns true; each argument reads behind the call as it read before'; 0 by the template 'total and deterministic' (their statements: YtkoimgeckkodhaaTotals.lean).
  GIVEN WITH THE SEED: the statements are not yours to turn. If you find one false, say at which input.
  Laid BY PROGRAM, IN A SANDBOX (cutbox-rows.mjs): the forced cells as the released guide's own fill.sh prints them over the translation dfb4f22d0847e190… (all of the seat's roots in one cut). By AI agents, Wed Nov 11 2026. No macro, syntax, notation, axiom, sorry.
-/
import Derived.Test.YtkoimgeckkodhaaChecked
import GoSem.Claim
import GoSem.ClaimJoined
import GoSem.ClaimMapViews
import Derived.JoinedTies
import Derived.KernelRfl
namespace Go.Proofs.Ytkoimgeckkodhaa
/- THE CELL 'sum', in the pinned program and in every row, IS THE sha256 OF THE DUMP (.gsa) THAT YtkoimgeckkodhaaProg.lean LOADS. Nothing in Lean hashes anything: it is a label: what it is worth is what the hold of that sum in a sandbox is worth. -/
noncomputable def Try.pinned : Pinned := { name := "ytkoimgeckkodhaa", sum := "dfb4f22d0847e190ea6da5c024592db78e98e50b9a2f20ff135758ae2368d558", checked := Try.checked }
namespace Rows
def none {H : Type} : Left H := { results := [], args := [] }

/-- 'hopperlaw22.LossyTells': WHATEVER THE INPUT: true; the input reads as it did. -/
def lossyTellsSpec : ChangeSpec := { name := "lossyTells", fn := fun _ => fun
  | [d1, d2] => { results := [.lit (.bool true)], args := [d1, d2] }
  | _ => none }
def lossyTellsRow : OpenClaim := { program := "ytkoimgeckkodhaa", sum := "dfb4f22d0847e190ea6da5c024592db78e98e50b9a2f20ff135758ae2368d558", func := "hopper/hopperlaw22.LossyTells", spec := "lossyTells", unfollowed := true, recurses := true, apart := false }
def LossyTellsSaid : Prop := lossyTellsRow.holds Try.pinned (OpenSpec.ofChange lossyTellsSpec)

/-- ITS FALSE NEIGHBOUR: 'it returns false'. Refute it at one input. -/
def lossyTellsWrong : ChangeSpec := { name := "lossyTells", fn := fun _ => fun
  | [d1, d2] => { results := [.lit (.bool false)], args := [d1, d2] }
  | _ => none }
def LossyTellsWrongFalsely : Prop := lossyTellsRow.holds Try.pinned (OpenSpec.ofChange lossyTellsWrong)

/-- 'hopperlaw22.LossyPolicies': WHATEVER THE INPUT: true; the input reads as it did. -/
def lossyPoliciesSpec : ChangeSpec := { name := "lossyPolicies", fn := fun _ => fun
  | [d1, d2, d3] => { results := [.lit (.bool true)], args := [d1, d2, d3] }
  | _ => none }
def lossyPoliciesRow : OpenClaim := { program := "ytkoimgeckkodhaa", sum := "dfb4f22d0847e190ea6da5c024592db78e98e50b9a2f20ff135758ae2368d558", func := "hopper/hopperlaw22.LossyPolicies", spec := "lossyPolicies", unfollowed := true, recurses := true, apart := false }
def LossyPoliciesSaid : Prop := lossyPoliciesRow.holds Try.pinned (OpenSpec.ofChange lossyPoliciesSpec)

/-- ITS FALSE NEIGHBOUR: 'it returns false'. Refute it at one input. -/
def lossyPoliciesWrong : ChangeSpec := { name := "lossyPolicies", fn := fun _ => fun
  | [d1, d2, d3] => { results := [.lit (.bool false)], args := [d1, d2, d3] }
  | _ => none }
def LossyPoliciesWrongFalsely : Prop := lossyPoliciesRow.holds Try.pinned (OpenSpec.ofChange lossyPoliciesWrong)

/-- 'hopperlaw22.LossySpoilt': WHATEVER THE INPUT: true; the input reads as it did. -/
def lossySpoiltSpec : ChangeSpec := { name := "lossySpoilt", fn := fun _ => fun
  | [d1, d2, d3] => { results := [.lit (.bool true)], args := [d1, d2, d3] }
  | _ => none }
def lossySpoiltRow : OpenClaim := { program := "ytkoimgeckkodhaa", sum := "dfb4f22d0847e190ea6da5c024592db78e98e50b9a2f20ff135758ae2368d558", func := "hopper/hopperlaw22.LossySpoilt", spec := "lossySpoilt", unfollowed := true, recurses := true, apart := false }
def LossySpoiltSaid : Prop := lossySpoiltRow.holds Try.pinned (OpenSpec.ofChange lossySpoiltSpec)

/-- ITS FALSE NEIGHBOUR: 'it returns false'. Refute it at one input. -/
def lossySpoiltWrong : ChangeSpec := { name := "lossySpoilt", fn := fun _ => fun
  | [d1, d2, d3] => { results := [.lit (.bool false)], args := [d1, d2, d3] }
  | _ => none }
def LossySpoiltWrongFalsely : Prop := lossySpoiltRow.holds Try.pinned (OpenSpec.ofChange lossySpoiltWrong)

/-- 'hopperlaw22.LossyParts': WHATEVER THE INPUT: true; the input reads as it did. -/
def lossyPartsSpec : ChangeSpec := { name := "lossyParts", fn := fun _ => fun
  | [d1, d2, d3] => { results := [.lit (.bool true)], args := [d1, d2, d3] }
  | _ => none }
def lossyPartsRow : OpenClaim := { program := "ytkoimgeckkodhaa", sum := "dfb4f22d0847e190ea6da5c024592db78e98e50b9a2f20ff135758ae2368d558", func := "hopper/hopperlaw22.LossyParts", spec := "lossyParts", unfollowed := true, recurses := true, apart := false }
def LossyPartsSaid : Prop := lossyPartsRow.holds Try.pinned (OpenSpec.ofChange lossyPartsSpec)

/-- ITS FALSE NEIGHBOUR: 'it returns false'. Refute it at one input. -/
def lossyPartsWrong : ChangeSpec := { name := "lossyParts", fn := fun _ => fun
  | [d1, d2, d3] => { results := [.lit (.bool false)], args := [d1, d2, d3] }
  | _ => none }
def LossyPartsWrongFalsely : Prop := lossyPartsRow.holds Try.pinned (OpenSpec.ofChange lossyPartsWrong)

/-- 'hopperlaw22.LossyNever': WHATEVER THE INPUT: true; the input reads as it did. -/
def lossyNeverSpec : ChangeSpec := { name := "lossyNever", fn := fun _ => fun
  | [d1, d2, d3] => { results := [.lit (.bool true)], args := [d1, d2, d3] }
  | _ => none }
def lossyNeverRow : OpenClaim := { program := "ytkoimgeckkodhaa", sum := "dfb4f22d0847e190ea6da5c024592db78e98e50b9a2f20ff135758ae2368d558", func := "hopper/hopperlaw22.LossyNever", spec := "lossyNever", unfollowed := true, recurses := true, apart := false }
def LossyNeverSaid : Prop := lossyNeverRow.holds Try.pinned (OpenSpec.ofChange lossyNeverSpec)

/-- ITS FALSE NEIGHBOUR: 'it returns false'. Refute it at one input. -/
def lossyNeverWrong : ChangeSpec := { name := "lossyNever", fn := fun _ => fun
  | [d1, d2, d3] => { results := [.lit (.bool false)], args := [d1, d2, d3] }
  | _ => none }
def LossyNeverWrongFalsely : Prop := lossyNeverRow.holds Try.pinned (OpenSpec.ofChange lossyNeverWrong)

/- THE SECOND FORM. 'bulk': how many values and letters a reading holds, each counted each time it is reached (what is shared counts as often as it is met; a slice's spare places count too). A statement '..UptoSaid' is the law's where the arguments, and the package variables that the reading takes, are together of bulk at most 1048576: NARROWER than '..Said'. Prove '..Said' where nothing that the law and all that it calls make is longer than what came in: it says more and counts as full. Else prove '..UptoSaid'. A law counts once. -/
mutual
def uptoBulk {H : Type} : DataW H → Nat
  | .lit (.string bytes) => bytes.length + 1
  | .lit _ => 1
  | .nil => 1
  | .ptr d => uptoBulk d + 1
  | .slice elems spare => uptoBulkAll elems + uptoBulkAll spare + 1
  | .agg parts => uptoBulkAll parts + 1
  | .iface _ d => uptoBulk d + 1
  | .map entries => uptoBulkEntries entries + 1
  | .held _ => 1
def uptoBulkAll {H : Type} : List (DataW H) → Nat
  | [] => 0
  | d :: r => uptoBulk d + uptoBulkAll r
def uptoBulkEntries {H : Type} : List (Lit × DataW H) → Nat
  | [] => 0
  | x :: r => uptoBulkEntry x + uptoBulkEntries r
def uptoBulkEntry {H : Type} : Lit × DataW H → Nat
  | (.string bytes, d) => bytes.length + uptoBulk d + 1
  | (_, d) => uptoBulk d + 1
 end
def uptoSmall : (H : Type) → List (DataW H) → Bool := fun _ ds => decide (uptoBulkAll ds ≤ 1048576)
def OpenSpec.upto (s : _root_.Go.ChangeSpec) : _root_.Go.OpenSpec := { _root_.Go.OpenSpec.ofChange s with cond := some uptoSmall }

/-- 'hopperlaw22.LossyTells', WHERE WHAT IT READS IS OF BULK AT MOST 1048576: true; the input reads as it did. -/
def lossyTellsUptoRow : OpenClaim := { program := "ytkoimgeckkodhaa", sum := "dfb4f22d0847e190ea6da5c024592db78e98e50b9a2f20ff135758ae2368d558", func := "hopper/hopperlaw22.LossyTells", spec := "lossyTells", unfollowed := true, recurses := true, apart := false, narrowed := true }
def LossyTellsUptoSaid : Prop := lossyTellsUptoRow.holds Try.pinned (OpenSpec.upto lossyTellsSpec)

/-- 'hopperlaw22.LossyPolicies', WHERE WHAT IT READS IS OF BULK AT MOST 1048576: true; the input reads as it did. -/
def lossyPoliciesUptoRow : OpenClaim := { program := "ytkoimgeckkodhaa", sum := "dfb4f22d0847e190ea6da5c024592db78e98e50b9a2f20ff135758ae2368d558", func := "hopper/hopperlaw22.LossyPolicies", spec := "lossyPolicies", unfollowed := true, recurses := true, apart := false, narrowed := true }
def LossyPoliciesUptoSaid : Prop := lossyPoliciesUptoRow.holds Try.pinned (OpenSpec.upto lossyPoliciesSpec)

/-- 'hopperlaw22.LossySpoilt', WHERE WHAT IT READS IS OF BULK AT MOST 1048576: true; the input reads as it did. -/
def lossySpoiltUptoRow : OpenClaim := { program := "ytkoimgeckkodhaa", sum := "dfb4f22d0847e190ea6da5c024592db78e98e50b9a2f20ff135758ae2368d558", func := "hopper/hopperlaw22.LossySpoilt", spec := "lossySpoilt", unfollowed := true, recurses := true, apart := false, narrowed := true }
def LossySpoiltUptoSaid : Prop := lossySpoiltUptoRow.holds Try.pinned (OpenSpec.upto lossySpoiltSpec)

/-- 'hopperlaw22.LossyParts', WHERE WHAT IT READS IS OF BULK AT MOST 1048576: true; the input reads as it did. -/
def lossyPartsUptoRow : OpenClaim := { program := "ytkoimgeckkodhaa", sum := "dfb4f22d0847e190ea6da5c024592db78e98e50b9a2f20ff135758ae2368d558", func := "hopper/hopperlaw22.LossyParts", spec := "lossyParts", unfollowed := true, recurses := true, apart := false, narrowed := true }
def LossyPartsUptoSaid : Prop := lossyPartsUptoRow.holds Try.pinned (OpenSpec.upto lossyPartsSpec)

/-- 'hopperlaw22.LossyNever', WHERE WHAT IT READS IS OF BULK AT MOST 1048576: true; the input reads as it did. -/
def lossyNeverUptoRow : OpenClaim := { program := "ytkoimgeckkodhaa", sum := "dfb4f22d0847e190ea6da5c024592db78e98e50b9a2f20ff135758ae2368d558", func := "hopper/hopperlaw22.LossyNever", spec := "lossyNever", unfollowed := true, recurses := true, apart := false, narrowed := true }
def LossyNeverUptoSaid : Prop := lossyNeverUptoRow.holds Try.pinned (OpenSpec.upto lossyNeverSpec)

end Rows
end Go.Proofs.Ytkoimgeckkodhaa
