/-
  No cell of these rows narrows 'for every input' (looked for: loops, veiled, ifaces, maps, wideKeys, modest, calm, conditions, laid).
  DERIVED. THE GIVEN ROWS OF THIS SEAT. 5 by the template 'for every input the law returns true; each argument reads behind the call as it read before'; 0 by the template 'total and deterministic' (their statements: YtnojinpneojfeaaTotals.lean).
  GIVEN WITH THE SEED: the statements are not yours to turn. If you find one false, say at which input.
  Laid BY PROGRAM, IN A SANDBOX (cutbox-rows.mjs): the forced cells as the released guide's own fill.sh prints them over the translation a0ad7da09a860e03… (all of the seat's roots in one cut). By AI agents, Wed Nov 11 2026. No macro, syntax, notation, axiom, sorry.
-/
import Derived.Test.YtnojinpneojfeaaChecked
import GoSem.Claim
import GoSem.ClaimJoined
import GoSem.ClaimMapViews
import Derived.JoinedTies
import Derived.KernelRfl
namespace Go.Proofs.Ytnojinpneojfeaa
/- THE CELL 'sum', in the pinned program and in every row, IS THE sha256 OF THE DUMP (.gsa) THAT YtnojinpneojfeaaProg.lean LOADS. Nothing in Lean hashes anything: it is a label: what it is worth is what the hold of that sum in a sandbox is worth. -/
noncomputable def Try.pinned : Pinned := { name := "ytnojinpneojfeaa", sum := "a0ad7da09a860e03ec22d7d465d68fa4a272905e70011b23a2de49b42f3b04f1", checked := Try.checked }
namespace Rows
def none {H : Type} : Left H := { results := [], args := [] }

/-- 'hopperlaw05.HindexActs': WHATEVER THE INPUT: true; the input reads as it did. -/
def hindexActsSpec : ChangeSpec := { name := "hindexActs", fn := fun _ => fun
  | [d] => { results := [.lit (.bool true)], args := [d] }
  | _ => none }
def hindexActsRow : OpenClaim := { program := "ytnojinpneojfeaa", sum := "a0ad7da09a860e03ec22d7d465d68fa4a272905e70011b23a2de49b42f3b04f1", func := "hopper/hopperlaw05.HindexActs", spec := "hindexActs", unfollowed := true, recurses := true, apart := false }
def HindexActsSaid : Prop := hindexActsRow.holds Try.pinned (OpenSpec.ofChange hindexActsSpec)

/-- ITS FALSE NEIGHBOUR: 'it returns false'. Refute it at one input. -/
def hindexActsWrong : ChangeSpec := { name := "hindexActs", fn := fun _ => fun
  | [d] => { results := [.lit (.bool false)], args := [d] }
  | _ => none }
def HindexActsWrongFalsely : Prop := hindexActsRow.holds Try.pinned (OpenSpec.ofChange hindexActsWrong)

/-- 'hopperlaw05.HindexGets': WHATEVER THE INPUT: true; the input reads as it did. -/
def hindexGetsSpec : ChangeSpec := { name := "hindexGets", fn := fun _ => fun
  | [d1, d2] => { results := [.lit (.bool true)], args := [d1, d2] }
  | _ => none }
def hindexGetsRow : OpenClaim := { program := "ytnojinpneojfeaa", sum := "a0ad7da09a860e03ec22d7d465d68fa4a272905e70011b23a2de49b42f3b04f1", func := "hopper/hopperlaw05.HindexGets", spec := "hindexGets", unfollowed := true, recurses := true, apart := false }
def HindexGetsSaid : Prop := hindexGetsRow.holds Try.pinned (OpenSpec.ofChange hindexGetsSpec)

/-- ITS FALSE NEIGHBOUR: 'it returns false'. Refute it at one input. -/
def hindexGetsWrong : ChangeSpec := { name := "hindexGets", fn := fun _ => fun
  | [d1, d2] => { results := [.lit (.bool false)], args := [d1, d2] }
  | _ => none }
def HindexGetsWrongFalsely : Prop := hindexGetsRow.holds Try.pinned (OpenSpec.ofChange hindexGetsWrong)

/-- 'hopperlaw05.HindexMap': WHATEVER THE INPUT: true; the input reads as it did. -/
def hindexMapSpec : ChangeSpec := { name := "hindexMap", fn := fun _ => fun
  | [d1, d2] => { results := [.lit (.bool true)], args := [d1, d2] }
  | _ => none }
def hindexMapRow : OpenClaim := { program := "ytnojinpneojfeaa", sum := "a0ad7da09a860e03ec22d7d465d68fa4a272905e70011b23a2de49b42f3b04f1", func := "hopper/hopperlaw05.HindexMap", spec := "hindexMap", unfollowed := true, recurses := true, apart := false }
def HindexMapSaid : Prop := hindexMapRow.holds Try.pinned (OpenSpec.ofChange hindexMapSpec)

/-- ITS FALSE NEIGHBOUR: 'it returns false'. Refute it at one input. -/
def hindexMapWrong : ChangeSpec := { name := "hindexMap", fn := fun _ => fun
  | [d1, d2] => { results := [.lit (.bool false)], args := [d1, d2] }
  | _ => none }
def HindexMapWrongFalsely : Prop := hindexMapRow.holds Try.pinned (OpenSpec.ofChange hindexMapWrong)

/-- 'hopperlaw05.HindexNear': WHATEVER THE INPUT: true; the input reads as it did. -/
def hindexNearSpec : ChangeSpec := { name := "hindexNear", fn := fun _ => fun
  | [d] => { results := [.lit (.bool true)], args := [d] }
  | _ => none }
def hindexNearRow : OpenClaim := { program := "ytnojinpneojfeaa", sum := "a0ad7da09a860e03ec22d7d465d68fa4a272905e70011b23a2de49b42f3b04f1", func := "hopper/hopperlaw05.HindexNear", spec := "hindexNear", unfollowed := true, recurses := true, apart := false }
def HindexNearSaid : Prop := hindexNearRow.holds Try.pinned (OpenSpec.ofChange hindexNearSpec)

/-- ITS FALSE NEIGHBOUR: 'it returns false'. Refute it at one input. -/
def hindexNearWrong : ChangeSpec := { name := "hindexNear", fn := fun _ => fun
  | [d] => { results := [.lit (.bool false)], args := [d] }
  | _ => none }
def HindexNearWrongFalsely : Prop := hindexNearRow.holds Try.pinned (OpenSpec.ofChange hindexNearWrong)

/-- 'hopperlaw05.HindexNobody': WHATEVER THE INPUT: true; the input reads as it did. -/
def hindexNobodySpec : ChangeSpec := { name := "hindexNobody", fn := fun _ => fun
  | [d1, d2] => { results := [.lit (.bool true)], args := [d1, d2] }
  | _ => none }
def hindexNobodyRow : OpenClaim := { program := "ytnojinpneojfeaa", sum := "a0ad7da09a860e03ec22d7d465d68fa4a272905e70011b23a2de49b42f3b04f1", func := "hopper/hopperlaw05.HindexNobody", spec := "hindexNobody", unfollowed := true, recurses := true, apart := false }
def HindexNobodySaid : Prop := hindexNobodyRow.holds Try.pinned (OpenSpec.ofChange hindexNobodySpec)

/-- ITS FALSE NEIGHBOUR: 'it returns false'. Refute it at one input. -/
def hindexNobodyWrong : ChangeSpec := { name := "hindexNobody", fn := fun _ => fun
  | [d1, d2] => { results := [.lit (.bool false)], args := [d1, d2] }
  | _ => none }
def HindexNobodyWrongFalsely : Prop := hindexNobodyRow.holds Try.pinned (OpenSpec.ofChange hindexNobodyWrong)

/- THE SECOND FORM. 'bulk': how many values and letters a reading holds, each counted each time it is reached (what is shared counts as often as it is met; a slice's spare places count too). A statement '..UptoSaid' is the law's where the arguments, and the package variables that the reading takes, are together of bulk at most 1048576: NARROWER than '..Said'. Prove '..Said' where nothing that the law and all that it calls make is longer than what came in: it says more and counts as full. Else prove '..UptoSaid'. A law counts once. -/
mutual
def uptoBulk {H : Type} : DataW H → Nat
  | .lit (.string bytes) => bytes.length + 1
  | .lit _ => 1
  | .nil => 1
  | .ptr d => uptoBulk d + 1
  | .slice elems spare => uptoBulkAll elems + uptoBulkAll spare + 1
  | .agg parts => uptoBulkAll parts + 1
  | .iface _ d => uptoBulk d + 1
  | .map entries => uptoBulkEntries entries + 1
  | .held _ => 1
def uptoBulkAll {H : Type} : List (DataW H) → Nat
  | [] => 0
  | d :: r => uptoBulk d + uptoBulkAll r
def uptoBulkEntries {H : Type} : List (Lit × DataW H) → Nat
  | [] => 0
  | x :: r => uptoBulkEntry x + uptoBulkEntries r
def uptoBulkEntry {H : Type} : Lit × DataW H → Nat
  | (.string bytes, d) => bytes.length + uptoBulk d + 1
  | (_, d) => uptoBulk d + 1
 end
def uptoSmall : (H : Type) → List (DataW H) → Bool := fun _ ds => decide (uptoBulkAll ds ≤ 1048576)
def OpenSpec.upto (s : _root_.Go.ChangeSpec) : _root_.Go.OpenSpec := { _root_.Go.OpenSpec.ofChange s with cond := some uptoSmall }

/-- 'hopperlaw05.HindexActs', WHERE WHAT IT READS IS OF BULK AT MOST 1048576: true; the input reads as it did. -/
def hindexActsUptoRow : OpenClaim := { program := "ytnojinpneojfeaa", sum := "a0ad7da09a860e03ec22d7d465d68fa4a272905e70011b23a2de49b42f3b04f1", func := "hopper/hopperlaw05.HindexActs", spec := "hindexActs", unfollowed := true, recurses := true, apart := false, narrowed := true }
def HindexActsUptoSaid : Prop := hindexActsUptoRow.holds Try.pinned (OpenSpec.upto hindexActsSpec)

/-- 'hopperlaw05.HindexGets', WHERE WHAT IT READS IS OF BULK AT MOST 1048576: true; the input reads as it did. -/
def hindexGetsUptoRow : OpenClaim := { program := "ytnojinpneojfeaa", sum := "a0ad7da09a860e03ec22d7d465d68fa4a272905e70011b23a2de49b42f3b04f1", func := "hopper/hopperlaw05.HindexGets", spec := "hindexGets", unfollowed := true, recurses := true, apart := false, narrowed := true }
def HindexGetsUptoSaid : Prop := hindexGetsUptoRow.holds Try.pinned (OpenSpec.upto hindexGetsSpec)

/-- 'hopperlaw05.HindexMap', WHERE WHAT IT READS IS OF BULK AT MOST 1048576: true; the input reads as it did. -/
def hindexMapUptoRow : OpenClaim := { program := "ytnojinpneojfeaa", sum := "a0ad7da09a860e03ec22d7d465d68fa4a272905e70011b23a2de49b42f3b04f1", func := "hopper/hopperlaw05.HindexMap", spec := "hindexMap", unfollowed := true, recurses := true, apart := false, narrowed := true }
def HindexMapUptoSaid : Prop := hindexMapUptoRow.holds Try.pinned (OpenSpec.upto hindexMapSpec)

/-- 'hopperlaw05.HindexNear', WHERE WHAT IT READS IS OF BULK AT MOST 1048576: true; the input reads as it did. -/
def hindexNearUptoRow : OpenClaim := { program := "ytnojinpneojfeaa", sum := "a0ad7da09a860e03ec22d7d465d68fa4a272905e70011b23a2de49b42f3b04f1", func := "hopper/hopperlaw05.HindexNear", spec := "hindexNear", unfollowed := true, recurses := true, apart := false, narrowed := true }
def HindexNearUptoSaid : Prop := hindexNearUptoRow.holds Try.pinned (OpenSpec.upto hindexNearSpec)

/-- 'hopperlaw05.HindexNobody', WHERE WHAT IT READS IS OF BULK AT MOST 1048576: true; the input reads as it did. -/
def hindexNobodyUptoRow : OpenClaim := { program := "ytnojinpneojfeaa", sum := "a0ad7da09a860e03ec22d7d465d68fa4a272905e70011b23a2de49b42f3b04f1", func := "hopper/hopperlaw05.HindexNobody", spec := "hindexNobody", unfollowed := true, recurses := true, apart := false, narrowed := true }
def HindexNobodyUptoSaid : Prop := hindexNobodyUptoRow.holds Try.pinned (OpenSpec.upto hindexNobodySpec)

end Rows
end Go.Proofs.Ytnojinpneojfeaa
