/-
  No cell of these rows narrows 'for every input' (looked for: loops, veiled, ifaces, maps, wideKeys, modest, calm, conditions, laid).
  DERIVED. THE GIVEN ROWS OF THIS SEAT. 5 by the template 'for every input the law returns true; each argument reads behind the call as it read before'; 0 by the template 'total and deterministic' (their statements: YtdebjhjnpomlmaaTotals.lean).
  GIVEN WITH THE SEED: the statements are not yours to turn. If you find one false, say at which input.
  Laid BY PROGRAM, IN A SANDBOX (cutbox-rows.mjs): the forced cells as the released guide's own fill.sh prints them over the translation becc45e995584040… (all of the seat's roots in one cut). By AI agents, Wed Nov 11 2026. No macro, syntax, notation, axiom, sorry.
-/
import Derived.Test.YtdebjhjnpomlmaaChecked
import GoSem.Claim
import GoSem.ClaimJoined
import GoSem.ClaimMapViews
import Derived.JoinedTies
import Derived.KernelRfl
namespace Go.Proofs.Ytdebjhjnpomlmaa
/- THE CELL 'sum', in the pinned program and in every row, IS THE sha256 OF THE DUMP (.gsa) THAT YtdebjhjnpomlmaaProg.lean LOADS. Nothing in Lean hashes anything: it is a label: what it is worth is what the hold of that sum in a sandbox is worth. -/
noncomputable def Try.pinned : Pinned := { name := "ytdebjhjnpomlmaa", sum := "becc45e995584040c71a13776fe199e1409ad6197c1ab0fd8b385514a21de68b", checked := Try.checked }
namespace Rows
def none {H : Type} : Left H := { results := [], args := [] }

/-- 'hopperlaw06.StoreRooms': WHATEVER THE INPUT: true; the input reads as it did. -/
def storeRoomsSpec : ChangeSpec := { name := "storeRooms", fn := fun _ => fun
  | [d1, d2] => { results := [.lit (.bool true)], args := [d1, d2] }
  | _ => none }
def storeRoomsRow : OpenClaim := { program := "ytdebjhjnpomlmaa", sum := "becc45e995584040c71a13776fe199e1409ad6197c1ab0fd8b385514a21de68b", func := "hopper/hopperlaw06.StoreRooms", spec := "storeRooms", unfollowed := true, recurses := true, apart := false }
def StoreRoomsSaid : Prop := storeRoomsRow.holds Try.pinned (OpenSpec.ofChange storeRoomsSpec)

/-- ITS FALSE NEIGHBOUR: 'it returns false'. Refute it at one input. -/
def storeRoomsWrong : ChangeSpec := { name := "storeRooms", fn := fun _ => fun
  | [d1, d2] => { results := [.lit (.bool false)], args := [d1, d2] }
  | _ => none }
def StoreRoomsWrongFalsely : Prop := storeRoomsRow.holds Try.pinned (OpenSpec.ofChange storeRoomsWrong)

/-- 'hopperlaw06.StoreFinds': WHATEVER THE INPUT: true; the input reads as it did. -/
def storeFindsSpec : ChangeSpec := { name := "storeFinds", fn := fun _ => fun
  | [d1, d2, d3] => { results := [.lit (.bool true)], args := [d1, d2, d3] }
  | _ => none }
def storeFindsRow : OpenClaim := { program := "ytdebjhjnpomlmaa", sum := "becc45e995584040c71a13776fe199e1409ad6197c1ab0fd8b385514a21de68b", func := "hopper/hopperlaw06.StoreFinds", spec := "storeFinds", unfollowed := true, recurses := true, apart := false }
def StoreFindsSaid : Prop := storeFindsRow.holds Try.pinned (OpenSpec.ofChange storeFindsSpec)

/-- ITS FALSE NEIGHBOUR: 'it returns false'. Refute it at one input. -/
def storeFindsWrong : ChangeSpec := { name := "storeFinds", fn := fun _ => fun
  | [d1, d2, d3] => { results := [.lit (.bool false)], args := [d1, d2, d3] }
  | _ => none }
def StoreFindsWrongFalsely : Prop := storeFindsRow.holds Try.pinned (OpenSpec.ofChange storeFindsWrong)

/-- 'hopperlaw06.StoreOne': WHATEVER THE INPUT: true; the input reads as it did. -/
def storeOneSpec : ChangeSpec := { name := "storeOne", fn := fun _ => fun
  | [d1, d2] => { results := [.lit (.bool true)], args := [d1, d2] }
  | _ => none }
def storeOneRow : OpenClaim := { program := "ytdebjhjnpomlmaa", sum := "becc45e995584040c71a13776fe199e1409ad6197c1ab0fd8b385514a21de68b", func := "hopper/hopperlaw06.StoreOne", spec := "storeOne", unfollowed := true, recurses := true, apart := false }
def StoreOneSaid : Prop := storeOneRow.holds Try.pinned (OpenSpec.ofChange storeOneSpec)

/-- ITS FALSE NEIGHBOUR: 'it returns false'. Refute it at one input. -/
def storeOneWrong : ChangeSpec := { name := "storeOne", fn := fun _ => fun
  | [d1, d2] => { results := [.lit (.bool false)], args := [d1, d2] }
  | _ => none }
def StoreOneWrongFalsely : Prop := storeOneRow.holds Try.pinned (OpenSpec.ofChange storeOneWrong)

/-- 'hopperlaw06.StoreActs': WHATEVER THE INPUT: true; the input reads as it did. -/
def storeActsSpec : ChangeSpec := { name := "storeActs", fn := fun _ => fun
  | [d1, d2] => { results := [.lit (.bool true)], args := [d1, d2] }
  | _ => none }
def storeActsRow : OpenClaim := { program := "ytdebjhjnpomlmaa", sum := "becc45e995584040c71a13776fe199e1409ad6197c1ab0fd8b385514a21de68b", func := "hopper/hopperlaw06.StoreActs", spec := "storeActs", unfollowed := true, recurses := true, apart := false }
def StoreActsSaid : Prop := storeActsRow.holds Try.pinned (OpenSpec.ofChange storeActsSpec)

/-- ITS FALSE NEIGHBOUR: 'it returns false'. Refute it at one input. -/
def storeActsWrong : ChangeSpec := { name := "storeActs", fn := fun _ => fun
  | [d1, d2] => { results := [.lit (.bool false)], args := [d1, d2] }
  | _ => none }
def StoreActsWrongFalsely : Prop := storeActsRow.holds Try.pinned (OpenSpec.ofChange storeActsWrong)

/-- 'hopperlaw06.StoreNobody': WHATEVER THE INPUT: true; the input reads as it did. -/
def storeNobodySpec : ChangeSpec := { name := "storeNobody", fn := fun _ => fun
  | [d1, d2] => { results := [.lit (.bool true)], args := [d1, d2] }
  | _ => none }
def storeNobodyRow : OpenClaim := { program := "ytdebjhjnpomlmaa", sum := "becc45e995584040c71a13776fe199e1409ad6197c1ab0fd8b385514a21de68b", func := "hopper/hopperlaw06.StoreNobody", spec := "storeNobody", unfollowed := true, recurses := true, apart := false }
def StoreNobodySaid : Prop := storeNobodyRow.holds Try.pinned (OpenSpec.ofChange storeNobodySpec)

/-- ITS FALSE NEIGHBOUR: 'it returns false'. Refute it at one input. -/
def storeNobodyWrong : ChangeSpec := { name := "storeNobody", fn := fun _ => fun
  | [d1, d2] => { results := [.lit (.bool false)], args := [d1, d2] }
  | _ => none }
def StoreNobodyWrongFalsely : Prop := storeNobodyRow.holds Try.pinned (OpenSpec.ofChange storeNobodyWrong)

/- THE SECOND FORM. 'bulk': how many values and letters a reading holds, each counted each time it is reached (what is shared counts as often as it is met; a slice's spare places count too). A statement '..UptoSaid' is the law's where the arguments, and the package variables that the reading takes, are together of bulk at most 1048576: NARROWER than '..Said'. Prove '..Said' where nothing that the law and all that it calls make is longer than what came in: it says more and counts as full. Else prove '..UptoSaid'. A law counts once. -/
mutual
def uptoBulk {H : Type} : DataW H → Nat
  | .lit (.string bytes) => bytes.length + 1
  | .lit _ => 1
  | .nil => 1
  | .ptr d => uptoBulk d + 1
  | .slice elems spare => uptoBulkAll elems + uptoBulkAll spare + 1
  | .agg parts => uptoBulkAll parts + 1
  | .iface _ d => uptoBulk d + 1
  | .map entries => uptoBulkEntries entries + 1
  | .held _ => 1
def uptoBulkAll {H : Type} : List (DataW H) → Nat
  | [] => 0
  | d :: r => uptoBulk d + uptoBulkAll r
def uptoBulkEntries {H : Type} : List (Lit × DataW H) → Nat
  | [] => 0
  | x :: r => uptoBulkEntry x + uptoBulkEntries r
def uptoBulkEntry {H : Type} : Lit × DataW H → Nat
  | (.string bytes, d) => bytes.length + uptoBulk d + 1
  | (_, d) => uptoBulk d + 1
 end
def uptoSmall : (H : Type) → List (DataW H) → Bool := fun _ ds => decide (uptoBulkAll ds ≤ 1048576)
def OpenSpec.upto (s : _root_.Go.ChangeSpec) : _root_.Go.OpenSpec := { _root_.Go.OpenSpec.ofChange s with cond := some uptoSmall }

/-- 'hopperlaw06.StoreRooms', WHERE WHAT IT READS IS OF BULK AT MOST 1048576: true; the input reads as it did. -/
def storeRoomsUptoRow : OpenClaim := { program := "ytdebjhjnpomlmaa", sum := "becc45e995584040c71a13776fe199e1409ad6197c1ab0fd8b385514a21de68b", func := "hopper/hopperlaw06.StoreRooms", spec := "storeRooms", unfollowed := true, recurses := true, apart := false, narrowed := true }
def StoreRoomsUptoSaid : Prop := storeRoomsUptoRow.holds Try.pinned (OpenSpec.upto storeRoomsSpec)

/-- 'hopperlaw06.StoreFinds', WHERE WHAT IT READS IS OF BULK AT MOST 1048576: true; the input reads as it did. -/
def storeFindsUptoRow : OpenClaim := { program := "ytdebjhjnpomlmaa", sum := "becc45e995584040c71a13776fe199e1409ad6197c1ab0fd8b385514a21de68b", func := "hopper/hopperlaw06.StoreFinds", spec := "storeFinds", unfollowed := true, recurses := true, apart := false, narrowed := true }
def StoreFindsUptoSaid : Prop := storeFindsUptoRow.holds Try.pinned (OpenSpec.upto storeFindsSpec)

/-- 'hopperlaw06.StoreOne', WHERE WHAT IT READS IS OF BULK AT MOST 1048576: true; the input reads as it did. -/
def storeOneUptoRow : OpenClaim := { program := "ytdebjhjnpomlmaa", sum := "becc45e995584040c71a13776fe199e1409ad6197c1ab0fd8b385514a21de68b", func := "hopper/hopperlaw06.StoreOne", spec := "storeOne", unfollowed := true, recurses := true, apart := false, narrowed := true }
def StoreOneUptoSaid : Prop := storeOneUptoRow.holds Try.pinned (OpenSpec.upto storeOneSpec)

/-- 'hopperlaw06.StoreActs', WHERE WHAT IT READS IS OF BULK AT MOST 1048576: true; the input reads as it did. -/
def storeActsUptoRow : OpenClaim := { program := "ytdebjhjnpomlmaa", sum := "becc45e995584040c71a13776fe199e1409ad6197c1ab0fd8b385514a21de68b", func := "hopper/hopperlaw06.StoreActs", spec := "storeActs", unfollowed := true, recurses := true, apart := false, narrowed := true }
def StoreActsUptoSaid : Prop := storeActsUptoRow.holds Try.pinned (OpenSpec.upto storeActsSpec)

/-- 'hopperlaw06.StoreNobody', WHERE WHAT IT READS IS OF BULK AT MOST 1048576: true; the input reads as it did. -/
def storeNobodyUptoRow : OpenClaim := { program := "ytdebjhjnpomlmaa", sum := "becc45e995584040c71a13776fe199e1409ad6197c1ab0fd8b385514a21de68b", func := "hopper/hopperlaw06.StoreNobody", spec := "storeNobody", unfollowed := true, recurses := true, apart := false, narrowed := true }
def StoreNobodyUptoSaid : Prop := storeNobodyUptoRow.holds Try.pinned (OpenSpec.upto storeNobodySpec)

end Rows
end Go.Proofs.Ytdebjhjnpomlmaa
