/-
  No cell of these rows narrows 'for every input' (looked for: loops, veiled, ifaces, maps, wideKeys, modest, calm, conditions, laid).
  DERIVED. THE GIVEN ROWS OF THIS SEAT. 6 by the template 'for every input the law returns true; each argument reads behind the call as it read before'; 0 by the template 'total and deterministic' (their statements: YthglbfgmohgfdaaTotals.lean).
  GIVEN WITH THE SEED: the statements are not yours to turn. If you find one false, say at which input.
  Laid BY PROGRAM, IN A SANDBOX (cutbox-rows.mjs): the forced cells as the released guide's own fill.sh prints them over the translation b3db6b88adb84349… (all of the seat's roots in one cut). By AI agents, Wed Nov 11 2026. No macro, syntax, notation, axiom, sorry.
-/
import Derived.Test.YthglbfgmohgfdaaChecked
import GoSem.Claim
import GoSem.ClaimJoined
import GoSem.ClaimMapViews
import Derived.JoinedTies
import Derived.KernelRfl
namespace Go.Proofs.Ythglbfgmohgfdaa
/- THE CELL 'sum', in the pinned program and in every row, IS THE sha256 OF THE DUMP (.gsa) THAT YthglbfgmohgfdaaProg.lean LOADS. Nothing in Lean hashes anything: it is a label: what it is worth is what the hold of that sum in a sandbox is worth. -/
noncomputable def Try.pinned : Pinned := { name := "ythglbfgmohgfdaa", sum := "b3db6b88adb84349f86a25258bb0a15f11252709df109ffca01db5c01878fc97", checked := Try.checked }
namespace Rows
def none {H : Type} : Left H := { results := [], args := [] }

/-- 'hopperlaw12.LirsSteps': WHATEVER THE INPUT: true; the input reads as it did. -/
def lirsStepsSpec : ChangeSpec := { name := "lirsSteps", fn := fun _ => fun
  | [d1, d2] => { results := [.lit (.bool true)], args := [d1, d2] }
  | _ => none }
def lirsStepsRow : OpenClaim := { program := "ythglbfgmohgfdaa", sum := "b3db6b88adb84349f86a25258bb0a15f11252709df109ffca01db5c01878fc97", func := "hopper/hopperlaw12.LirsSteps", spec := "lirsSteps", inPlace := ["slices.overlaps[hopper/lirs.Item]"], unfollowed := true, recurses := true, apart := false }
def LirsStepsSaid : Prop := lirsStepsRow.holds Try.pinned (OpenSpec.ofChange lirsStepsSpec)

/-- ITS FALSE NEIGHBOUR: 'it returns false'. Refute it at one input. -/
def lirsStepsWrong : ChangeSpec := { name := "lirsSteps", fn := fun _ => fun
  | [d1, d2] => { results := [.lit (.bool false)], args := [d1, d2] }
  | _ => none }
def LirsStepsWrongFalsely : Prop := lirsStepsRow.holds Try.pinned (OpenSpec.ofChange lirsStepsWrong)

/-- 'hopperlaw12.LirsLooks': WHATEVER THE INPUT: true; the input reads as it did. -/
def lirsLooksSpec : ChangeSpec := { name := "lirsLooks", fn := fun _ => fun
  | [d1, d2, d3] => { results := [.lit (.bool true)], args := [d1, d2, d3] }
  | _ => none }
def lirsLooksRow : OpenClaim := { program := "ythglbfgmohgfdaa", sum := "b3db6b88adb84349f86a25258bb0a15f11252709df109ffca01db5c01878fc97", func := "hopper/hopperlaw12.LirsLooks", spec := "lirsLooks", inPlace := ["slices.overlaps[hopper/lirs.Item]"], unfollowed := true, recurses := true, apart := false }
def LirsLooksSaid : Prop := lirsLooksRow.holds Try.pinned (OpenSpec.ofChange lirsLooksSpec)

/-- ITS FALSE NEIGHBOUR: 'it returns false'. Refute it at one input. -/
def lirsLooksWrong : ChangeSpec := { name := "lirsLooks", fn := fun _ => fun
  | [d1, d2, d3] => { results := [.lit (.bool false)], args := [d1, d2, d3] }
  | _ => none }
def LirsLooksWrongFalsely : Prop := lirsLooksRow.holds Try.pinned (OpenSpec.ofChange lirsLooksWrong)

/-- 'hopperlaw12.LirsEvicts': WHATEVER THE INPUT: true; the input reads as it did. -/
def lirsEvictsSpec : ChangeSpec := { name := "lirsEvicts", fn := fun _ => fun
  | [d1, d2, d3] => { results := [.lit (.bool true)], args := [d1, d2, d3] }
  | _ => none }
def lirsEvictsRow : OpenClaim := { program := "ythglbfgmohgfdaa", sum := "b3db6b88adb84349f86a25258bb0a15f11252709df109ffca01db5c01878fc97", func := "hopper/hopperlaw12.LirsEvicts", spec := "lirsEvicts", inPlace := ["slices.overlaps[hopper/lirs.Item]"], unfollowed := true, recurses := true, apart := false }
def LirsEvictsSaid : Prop := lirsEvictsRow.holds Try.pinned (OpenSpec.ofChange lirsEvictsSpec)

/-- ITS FALSE NEIGHBOUR: 'it returns false'. Refute it at one input. -/
def lirsEvictsWrong : ChangeSpec := { name := "lirsEvicts", fn := fun _ => fun
  | [d1, d2, d3] => { results := [.lit (.bool false)], args := [d1, d2, d3] }
  | _ => none }
def LirsEvictsWrongFalsely : Prop := lirsEvictsRow.holds Try.pinned (OpenSpec.ofChange lirsEvictsWrong)

/-- 'hopperlaw12.LirsBounds': WHATEVER THE INPUT: true; the input reads as it did. -/
def lirsBoundsSpec : ChangeSpec := { name := "lirsBounds", fn := fun _ => fun
  | [d1, d2] => { results := [.lit (.bool true)], args := [d1, d2] }
  | _ => none }
def lirsBoundsRow : OpenClaim := { program := "ythglbfgmohgfdaa", sum := "b3db6b88adb84349f86a25258bb0a15f11252709df109ffca01db5c01878fc97", func := "hopper/hopperlaw12.LirsBounds", spec := "lirsBounds", inPlace := ["slices.overlaps[hopper/lirs.Item]"], unfollowed := true, recurses := true, apart := false }
def LirsBoundsSaid : Prop := lirsBoundsRow.holds Try.pinned (OpenSpec.ofChange lirsBoundsSpec)

/-- ITS FALSE NEIGHBOUR: 'it returns false'. Refute it at one input. -/
def lirsBoundsWrong : ChangeSpec := { name := "lirsBounds", fn := fun _ => fun
  | [d1, d2] => { results := [.lit (.bool false)], args := [d1, d2] }
  | _ => none }
def LirsBoundsWrongFalsely : Prop := lirsBoundsRow.holds Try.pinned (OpenSpec.ofChange lirsBoundsWrong)

/-- 'hopperlaw12.LirsKinds': WHATEVER THE INPUT: true; the input reads as it did. -/
def lirsKindsSpec : ChangeSpec := { name := "lirsKinds", fn := fun _ => fun
  | [d1, d2] => { results := [.lit (.bool true)], args := [d1, d2] }
  | _ => none }
def lirsKindsRow : OpenClaim := { program := "ythglbfgmohgfdaa", sum := "b3db6b88adb84349f86a25258bb0a15f11252709df109ffca01db5c01878fc97", func := "hopper/hopperlaw12.LirsKinds", spec := "lirsKinds", inPlace := ["slices.overlaps[hopper/lirs.Item]"], unfollowed := true, recurses := true, apart := false }
def LirsKindsSaid : Prop := lirsKindsRow.holds Try.pinned (OpenSpec.ofChange lirsKindsSpec)

/-- ITS FALSE NEIGHBOUR: 'it returns false'. Refute it at one input. -/
def lirsKindsWrong : ChangeSpec := { name := "lirsKinds", fn := fun _ => fun
  | [d1, d2] => { results := [.lit (.bool false)], args := [d1, d2] }
  | _ => none }
def LirsKindsWrongFalsely : Prop := lirsKindsRow.holds Try.pinned (OpenSpec.ofChange lirsKindsWrong)

/-- 'hopperlaw12.LirsStays': WHATEVER THE INPUT: true; the input reads as it did. -/
def lirsStaysSpec : ChangeSpec := { name := "lirsStays", fn := fun _ => fun
  | [d1, d2, d3] => { results := [.lit (.bool true)], args := [d1, d2, d3] }
  | _ => none }
def lirsStaysRow : OpenClaim := { program := "ythglbfgmohgfdaa", sum := "b3db6b88adb84349f86a25258bb0a15f11252709df109ffca01db5c01878fc97", func := "hopper/hopperlaw12.LirsStays", spec := "lirsStays", inPlace := ["slices.overlaps[hopper/lirs.Item]"], unfollowed := true, recurses := true, apart := false }
def LirsStaysSaid : Prop := lirsStaysRow.holds Try.pinned (OpenSpec.ofChange lirsStaysSpec)

/-- ITS FALSE NEIGHBOUR: 'it returns false'. Refute it at one input. -/
def lirsStaysWrong : ChangeSpec := { name := "lirsStays", fn := fun _ => fun
  | [d1, d2, d3] => { results := [.lit (.bool false)], args := [d1, d2, d3] }
  | _ => none }
def LirsStaysWrongFalsely : Prop := lirsStaysRow.holds Try.pinned (OpenSpec.ofChange lirsStaysWrong)

/- THE SECOND FORM. 'bulk': how many values and letters a reading holds, each counted each time it is reached (what is shared counts as often as it is met; a slice's spare places count too). A statement '..UptoSaid' is the law's where the arguments, and the package variables that the reading takes, are together of bulk at most 1048576: NARROWER than '..Said'. Prove '..Said' where nothing that the law and all that it calls make is longer than what came in: it says more and counts as full. Else prove '..UptoSaid'. A law counts once. -/
mutual
def uptoBulk {H : Type} : DataW H → Nat
  | .lit (.string bytes) => bytes.length + 1
  | .lit _ => 1
  | .nil => 1
  | .ptr d => uptoBulk d + 1
  | .slice elems spare => uptoBulkAll elems + uptoBulkAll spare + 1
  | .agg parts => uptoBulkAll parts + 1
  | .iface _ d => uptoBulk d + 1
  | .map entries => uptoBulkEntries entries + 1
  | .held _ => 1
def uptoBulkAll {H : Type} : List (DataW H) → Nat
  | [] => 0
  | d :: r => uptoBulk d + uptoBulkAll r
def uptoBulkEntries {H : Type} : List (Lit × DataW H) → Nat
  | [] => 0
  | x :: r => uptoBulkEntry x + uptoBulkEntries r
def uptoBulkEntry {H : Type} : Lit × DataW H → Nat
  | (.string bytes, d) => bytes.length + uptoBulk d + 1
  | (_, d) => uptoBulk d + 1
 end
def uptoSmall : (H : Type) → List (DataW H) → Bool := fun _ ds => decide (uptoBulkAll ds ≤ 1048576)
def OpenSpec.upto (s : _root_.Go.ChangeSpec) : _root_.Go.OpenSpec := { _root_.Go.OpenSpec.ofChange s with cond := some uptoSmall }

/-- 'hopperlaw12.LirsSteps', WHERE WHAT IT READS IS OF BULK AT MOST 1048576: true; the input reads as it did. -/
def lirsStepsUptoRow : OpenClaim := { program := "ythglbfgmohgfdaa", sum := "b3db6b88adb84349f86a25258bb0a15f11252709df109ffca01db5c01878fc97", func := "hopper/hopperlaw12.LirsSteps", spec := "lirsSteps", inPlace := ["slices.overlaps[hopper/lirs.Item]"], unfollowed := true, recurses := true, apart := false, narrowed := true }
def LirsStepsUptoSaid : Prop := lirsStepsUptoRow.holds Try.pinned (OpenSpec.upto lirsStepsSpec)

/-- 'hopperlaw12.LirsLooks', WHERE WHAT IT READS IS OF BULK AT MOST 1048576: true; the input reads as it did. -/
def lirsLooksUptoRow : OpenClaim := { program := "ythglbfgmohgfdaa", sum := "b3db6b88adb84349f86a25258bb0a15f11252709df109ffca01db5c01878fc97", func := "hopper/hopperlaw12.LirsLooks", spec := "lirsLooks", inPlace := ["slices.overlaps[hopper/lirs.Item]"], unfollowed := true, recurses := true, apart := false, narrowed := true }
def LirsLooksUptoSaid : Prop := lirsLooksUptoRow.holds Try.pinned (OpenSpec.upto lirsLooksSpec)

/-- 'hopperlaw12.LirsEvicts', WHERE WHAT IT READS IS OF BULK AT MOST 1048576: true; the input reads as it did. -/
def lirsEvictsUptoRow : OpenClaim := { program := "ythglbfgmohgfdaa", sum := "b3db6b88adb84349f86a25258bb0a15f11252709df109ffca01db5c01878fc97", func := "hopper/hopperlaw12.LirsEvicts", spec := "lirsEvicts", inPlace := ["slices.overlaps[hopper/lirs.Item]"], unfollowed := true, recurses := true, apart := false, narrowed := true }
def LirsEvictsUptoSaid : Prop := lirsEvictsUptoRow.holds Try.pinned (OpenSpec.upto lirsEvictsSpec)

/-- 'hopperlaw12.LirsBounds', WHERE WHAT IT READS IS OF BULK AT MOST 1048576: true; the input reads as it did. -/
def lirsBoundsUptoRow : OpenClaim := { program := "ythglbfgmohgfdaa", sum := "b3db6b88adb84349f86a25258bb0a15f11252709df109ffca01db5c01878fc97", func := "hopper/hopperlaw12.LirsBounds", spec := "lirsBounds", inPlace := ["slices.overlaps[hopper/lirs.Item]"], unfollowed := true, recurses := true, apart := false, narrowed := true }
def LirsBoundsUptoSaid : Prop := lirsBoundsUptoRow.holds Try.pinned (OpenSpec.upto lirsBoundsSpec)

/-- 'hopperlaw12.LirsKinds', WHERE WHAT IT READS IS OF BULK AT MOST 1048576: true; the input reads as it did. -/
def lirsKindsUptoRow : OpenClaim := { program := "ythglbfgmohgfdaa", sum := "b3db6b88adb84349f86a25258bb0a15f11252709df109ffca01db5c01878fc97", func := "hopper/hopperlaw12.LirsKinds", spec := "lirsKinds", inPlace := ["slices.overlaps[hopper/lirs.Item]"], unfollowed := true, recurses := true, apart := false, narrowed := true }
def LirsKindsUptoSaid : Prop := lirsKindsUptoRow.holds Try.pinned (OpenSpec.upto lirsKindsSpec)

/-- 'hopperlaw12.LirsStays', WHERE WHAT IT READS IS OF BULK AT MOST 1048576: true; the input reads as it did. -/
def lirsStaysUptoRow : OpenClaim := { program := "ythglbfgmohgfdaa", sum := "b3db6b88adb84349f86a25258bb0a15f11252709df109ffca01db5c01878fc97", func := "hopper/hopperlaw12.LirsStays", spec := "lirsStays", inPlace := ["slices.overlaps[hopper/lirs.Item]"], unfollowed := true, recurses := true, apart := false, narrowed := true }
def LirsStaysUptoSaid : Prop := lirsStaysUptoRow.holds Try.pinned (OpenSpec.upto lirsStaysSpec)

end Rows
end Go.Proofs.Ythglbfgmohgfdaa
