/-
  No cell of these rows narrows 'for every input' (looked for: loops, veiled, ifaces, maps, wideKeys, modest, calm, conditions, laid).
  DERIVED. THE GIVEN ROWS OF THIS SEAT. 5 by the template 'for every input the law returns true; each argument reads behind the call as it read before'; 0 by the template 'total and deterministic' (their statements: YtonmgfndleacnaaTotals.lean).
  GIVEN WITH THE SEED: the statements are not yours to turn. If you find one false, say at which input.
  Laid BY PROGRAM, IN A SANDBOX (cutbox-rows.mjs): the forced cells as the released guide's own fill.sh prints them over the translation 055527bfe7402077… (all of the seat's roots in one cut). By AI agents, Wed Nov 11 2026. No macro, syntax, notation, axiom, sorry.
-/
import Derived.Test.YtonmgfndleacnaaChecked
import GoSem.Claim
import GoSem.ClaimJoined
import GoSem.ClaimMapViews
import Derived.JoinedTies
import Derived.KernelRfl
namespace Go.Proofs.Ytonmgfndleacnaa
/- THE CELL 'sum', in the pinned program and in every row, IS THE sha256 OF THE DUMP (.gsa) THAT YtonmgfndleacnaaProg.lean LOADS. Nothing in Lean hashes anything: it is a label: what it is worth is what the hold of that sum in a sandbox is worth. -/
noncomputable def Try.pinned : Pinned := { name := "ytonmgfndleacnaa", sum := "055527bfe74020773f169b1c28c94f5fb65ec7b81c34201310f39d00553ddb63", checked := Try.checked }
namespace Rows
def none {H : Type} : Left H := { results := [], args := [] }

/-- 'hopperlaw02.MixTells': WHATEVER THE INPUT: true; the input reads as it did. -/
def mixTellsSpec : ChangeSpec := { name := "mixTells", fn := fun _ => fun
  | [d1, d2] => { results := [.lit (.bool true)], args := [d1, d2] }
  | _ => none }
def mixTellsRow : OpenClaim := { program := "ytonmgfndleacnaa", sum := "055527bfe74020773f169b1c28c94f5fb65ec7b81c34201310f39d00553ddb63", func := "hopper/hopperlaw02.MixTells", spec := "mixTells", unfollowed := true, recurses := true, apart := false }
def MixTellsSaid : Prop := mixTellsRow.holds Try.pinned (OpenSpec.ofChange mixTellsSpec)

/-- ITS FALSE NEIGHBOUR: 'it returns false'. Refute it at one input. -/
def mixTellsWrong : ChangeSpec := { name := "mixTells", fn := fun _ => fun
  | [d1, d2] => { results := [.lit (.bool false)], args := [d1, d2] }
  | _ => none }
def MixTellsWrongFalsely : Prop := mixTellsRow.holds Try.pinned (OpenSpec.ofChange mixTellsWrong)

/-- 'hopperlaw02.MixBack': WHATEVER THE INPUT: true; the input reads as it did. -/
def mixBackSpec : ChangeSpec := { name := "mixBack", fn := fun _ => fun
  | [d] => { results := [.lit (.bool true)], args := [d] }
  | _ => none }
def mixBackRow : OpenClaim := { program := "ytonmgfndleacnaa", sum := "055527bfe74020773f169b1c28c94f5fb65ec7b81c34201310f39d00553ddb63", func := "hopper/hopperlaw02.MixBack", spec := "mixBack", unfollowed := true, recurses := true, apart := false }
def MixBackSaid : Prop := mixBackRow.holds Try.pinned (OpenSpec.ofChange mixBackSpec)

/-- ITS FALSE NEIGHBOUR: 'it returns false'. Refute it at one input. -/
def mixBackWrong : ChangeSpec := { name := "mixBack", fn := fun _ => fun
  | [d] => { results := [.lit (.bool false)], args := [d] }
  | _ => none }
def MixBackWrongFalsely : Prop := mixBackRow.holds Try.pinned (OpenSpec.ofChange mixBackWrong)

/-- 'hopperlaw02.MixApart': WHATEVER THE INPUT: true; the input reads as it did. -/
def mixApartSpec : ChangeSpec := { name := "mixApart", fn := fun _ => fun
  | [d1, d2] => { results := [.lit (.bool true)], args := [d1, d2] }
  | _ => none }
def mixApartRow : OpenClaim := { program := "ytonmgfndleacnaa", sum := "055527bfe74020773f169b1c28c94f5fb65ec7b81c34201310f39d00553ddb63", func := "hopper/hopperlaw02.MixApart", spec := "mixApart", unfollowed := true, recurses := true, apart := false }
def MixApartSaid : Prop := mixApartRow.holds Try.pinned (OpenSpec.ofChange mixApartSpec)

/-- ITS FALSE NEIGHBOUR: 'it returns false'. Refute it at one input. -/
def mixApartWrong : ChangeSpec := { name := "mixApart", fn := fun _ => fun
  | [d1, d2] => { results := [.lit (.bool false)], args := [d1, d2] }
  | _ => none }
def MixApartWrongFalsely : Prop := mixApartRow.holds Try.pinned (OpenSpec.ofChange mixApartWrong)

/-- 'hopperlaw02.MixHomes': WHATEVER THE INPUT: true; the input reads as it did. -/
def mixHomesSpec : ChangeSpec := { name := "mixHomes", fn := fun _ => fun
  | [d1, d2] => { results := [.lit (.bool true)], args := [d1, d2] }
  | _ => none }
def mixHomesRow : OpenClaim := { program := "ytonmgfndleacnaa", sum := "055527bfe74020773f169b1c28c94f5fb65ec7b81c34201310f39d00553ddb63", func := "hopper/hopperlaw02.MixHomes", spec := "mixHomes", unfollowed := true, recurses := true, apart := false }
def MixHomesSaid : Prop := mixHomesRow.holds Try.pinned (OpenSpec.ofChange mixHomesSpec)

/-- ITS FALSE NEIGHBOUR: 'it returns false'. Refute it at one input. -/
def mixHomesWrong : ChangeSpec := { name := "mixHomes", fn := fun _ => fun
  | [d1, d2] => { results := [.lit (.bool false)], args := [d1, d2] }
  | _ => none }
def MixHomesWrongFalsely : Prop := mixHomesRow.holds Try.pinned (OpenSpec.ofChange mixHomesWrong)

/-- 'hopperlaw02.MixSteps': WHATEVER THE INPUT: true; the input reads as it did. -/
def mixStepsSpec : ChangeSpec := { name := "mixSteps", fn := fun _ => fun
  | [d1, d2, d3] => { results := [.lit (.bool true)], args := [d1, d2, d3] }
  | _ => none }
def mixStepsRow : OpenClaim := { program := "ytonmgfndleacnaa", sum := "055527bfe74020773f169b1c28c94f5fb65ec7b81c34201310f39d00553ddb63", func := "hopper/hopperlaw02.MixSteps", spec := "mixSteps", unfollowed := true, recurses := true, apart := false }
def MixStepsSaid : Prop := mixStepsRow.holds Try.pinned (OpenSpec.ofChange mixStepsSpec)

/-- ITS FALSE NEIGHBOUR: 'it returns false'. Refute it at one input. -/
def mixStepsWrong : ChangeSpec := { name := "mixSteps", fn := fun _ => fun
  | [d1, d2, d3] => { results := [.lit (.bool false)], args := [d1, d2, d3] }
  | _ => none }
def MixStepsWrongFalsely : Prop := mixStepsRow.holds Try.pinned (OpenSpec.ofChange mixStepsWrong)

/- THE SECOND FORM. 'bulk': how many values and letters a reading holds, each counted each time it is reached (what is shared counts as often as it is met; a slice's spare places count too). A statement '..UptoSaid' is the law's where the arguments, and the package variables that the reading takes, are together of bulk at most 1048576: NARROWER than '..Said'. Prove '..Said' where nothing that the law and all that it calls make is longer than what came in: it says more and counts as full. Else prove '..UptoSaid'. A law counts once. -/
mutual
def uptoBulk {H : Type} : DataW H → Nat
  | .lit (.string bytes) => bytes.length + 1
  | .lit _ => 1
  | .nil => 1
  | .ptr d => uptoBulk d + 1
  | .slice elems spare => uptoBulkAll elems + uptoBulkAll spare + 1
  | .agg parts => uptoBulkAll parts + 1
  | .iface _ d => uptoBulk d + 1
  | .map entries => uptoBulkEntries entries + 1
  | .held _ => 1
def uptoBulkAll {H : Type} : List (DataW H) → Nat
  | [] => 0
  | d :: r => uptoBulk d + uptoBulkAll r
def uptoBulkEntries {H : Type} : List (Lit × DataW H) → Nat
  | [] => 0
  | x :: r => uptoBulkEntry x + uptoBulkEntries r
def uptoBulkEntry {H : Type} : Lit × DataW H → Nat
  | (.string bytes, d) => bytes.length + uptoBulk d + 1
  | (_, d) => uptoBulk d + 1
 end
def uptoSmall : (H : Type) → List (DataW H) → Bool := fun _ ds => decide (uptoBulkAll ds ≤ 1048576)
def OpenSpec.upto (s : _root_.Go.ChangeSpec) : _root_.Go.OpenSpec := { _root_.Go.OpenSpec.ofChange s with cond := some uptoSmall }

/-- 'hopperlaw02.MixTells', WHERE WHAT IT READS IS OF BULK AT MOST 1048576: true; the input reads as it did. -/
def mixTellsUptoRow : OpenClaim := { program := "ytonmgfndleacnaa", sum := "055527bfe74020773f169b1c28c94f5fb65ec7b81c34201310f39d00553ddb63", func := "hopper/hopperlaw02.MixTells", spec := "mixTells", unfollowed := true, recurses := true, apart := false, narrowed := true }
def MixTellsUptoSaid : Prop := mixTellsUptoRow.holds Try.pinned (OpenSpec.upto mixTellsSpec)

/-- 'hopperlaw02.MixBack', WHERE WHAT IT READS IS OF BULK AT MOST 1048576: true; the input reads as it did. -/
def mixBackUptoRow : OpenClaim := { program := "ytonmgfndleacnaa", sum := "055527bfe74020773f169b1c28c94f5fb65ec7b81c34201310f39d00553ddb63", func := "hopper/hopperlaw02.MixBack", spec := "mixBack", unfollowed := true, recurses := true, apart := false, narrowed := true }
def MixBackUptoSaid : Prop := mixBackUptoRow.holds Try.pinned (OpenSpec.upto mixBackSpec)

/-- 'hopperlaw02.MixApart', WHERE WHAT IT READS IS OF BULK AT MOST 1048576: true; the input reads as it did. -/
def mixApartUptoRow : OpenClaim := { program := "ytonmgfndleacnaa", sum := "055527bfe74020773f169b1c28c94f5fb65ec7b81c34201310f39d00553ddb63", func := "hopper/hopperlaw02.MixApart", spec := "mixApart", unfollowed := true, recurses := true, apart := false, narrowed := true }
def MixApartUptoSaid : Prop := mixApartUptoRow.holds Try.pinned (OpenSpec.upto mixApartSpec)

/-- 'hopperlaw02.MixHomes', WHERE WHAT IT READS IS OF BULK AT MOST 1048576: true; the input reads as it did. -/
def mixHomesUptoRow : OpenClaim := { program := "ytonmgfndleacnaa", sum := "055527bfe74020773f169b1c28c94f5fb65ec7b81c34201310f39d00553ddb63", func := "hopper/hopperlaw02.MixHomes", spec := "mixHomes", unfollowed := true, recurses := true, apart := false, narrowed := true }
def MixHomesUptoSaid : Prop := mixHomesUptoRow.holds Try.pinned (OpenSpec.upto mixHomesSpec)

/-- 'hopperlaw02.MixSteps', WHERE WHAT IT READS IS OF BULK AT MOST 1048576: true; the input reads as it did. -/
def mixStepsUptoRow : OpenClaim := { program := "ytonmgfndleacnaa", sum := "055527bfe74020773f169b1c28c94f5fb65ec7b81c34201310f39d00553ddb63", func := "hopper/hopperlaw02.MixSteps", spec := "mixSteps", unfollowed := true, recurses := true, apart := false, narrowed := true }
def MixStepsUptoSaid : Prop := mixStepsUptoRow.holds Try.pinned (OpenSpec.upto mixStepsSpec)

end Rows
end Go.Proofs.Ytonmgfndleacnaa
