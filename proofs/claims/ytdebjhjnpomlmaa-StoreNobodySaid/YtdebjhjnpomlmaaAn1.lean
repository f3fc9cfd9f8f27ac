/- Slots that are taken and freed: what acts make, of rows alone. Conditions: none. -/
import Derived.Test.YtdebjhjnpomlmaaTy
set_option linter.unusedVariables false
set_option linter.unusedSimpArgs false
namespace Go.Al
structure Nd where
  key : Int
  val : Int
  flag : Int
  tag : Int
  prev : Int
  next : Int
  deriving DecidableEq, Inhabited
def Nd.cells (x : Nd) : List AV := [.sc (.int .u64 x.key), .sc (.int .u64 x.val), .sc (.int .i64 x.flag), .sc (.int .i64 x.tag), .sc (.int .i32 x.prev), .sc (.int .i32 x.next)]
def nd0 : Nd := ⟨0, 0, 0, 0, 0, 0⟩
structure Slt where
  nd : Nd
  tk : Bool
  deriving DecidableEq, Inhabited
def Slt.cells (x : Slt) : List AV := [.sc (.int .u64 x.nd.key), .sc (.int .u64 x.nd.val), .sc (.int .i64 x.nd.flag), .sc (.int .i64 x.nd.tag), .sc (.int .i32 x.nd.prev), .sc (.int .i32 x.nd.next), .sc (.bool x.tk)]
def slt0 : Slt := ⟨nd0, false⟩
def SL (l : List Slt) : List (List AV) := l.map Slt.cells
theorem SL_len (l : List Slt) : (SL l).length = l.length := by simp [SL]
theorem SL_get {l : List Slt} {p : Nat} {x : Slt} (h : l[p]? = some x) : (SL l)[p]? = some [.sc (.int .u64 x.nd.key), .sc (.int .u64 x.nd.val), .sc (.int .i64 x.nd.flag), .sc (.int .i64 x.nd.tag), .sc (.int .i32 x.nd.prev), .sc (.int .i32 x.nd.next), .sc (.bool x.tk)] := by simp [SL, h, Slt.cells]
theorem SL_set (l : List Slt) (p : Nat) (x : Slt) : (SL l).set p [.sc (.int .u64 x.nd.key), .sc (.int .u64 x.nd.val), .sc (.int .i64 x.nd.flag), .sc (.int .i64 x.nd.tag), .sc (.int .i32 x.nd.prev), .sc (.int .i32 x.nd.next), .sc (.bool x.tk)] = SL (l.set p x) := by simp [SL, List.map_set, Slt.cells]
theorem SL_rep (m : Nat) : List.replicate m [.sc (.int .u64 0), .sc (.int .u64 0), .sc (.int .i64 0), .sc (.int .i64 0), .sc (.int .i32 0), .sc (.int .i32 0), .sc (.bool false)] = SL (List.replicate m slt0) := by simp [SL, Slt.cells, slt0, nd0]
theorem SL_append (a b : List Slt) : SL (a ++ b) = SL a ++ SL b := by simp [SL]
theorem SL_take (a : List Slt) (n : Nat) : (SL a).take n = SL (a.take n) := by simp [SL]
theorem SL_drop (a : List Slt) (n : Nat) : (SL a).drop n = SL (a.drop n) := by simp [SL]
def I32 (l : List Int) : List (List AV) := l.map fun x => [.sc (.int .i32 x)]
theorem I32_len (l : List Int) : (I32 l).length = l.length := by simp [I32]
theorem I32_get {l : List Int} {p : Nat} {x : Int} (h : l[p]? = some x) : (I32 l)[p]? = some [.sc (.int .i32 x)] := by simp [I32, h]
theorem I32_snoc (l : List Int) (x : Int) : I32 (l ++ [x]) = I32 l ++ [[.sc (.int .i32 x)]] := by simp [I32]
theorem I32_take (a : List Int) (k : Nat) : (I32 a).take k = I32 (a.take k) := by simp [I32]
theorem I32_drop (a : List Int) (k : Nat) : (I32 a).drop k = I32 (a.drop k) := by simp [I32]
theorem I32_append (a b : List Int) : I32 (a ++ b) = I32 a ++ I32 b := by simp [I32]
theorem I32_nil : I32 [] = [] := rfl
theorem noIdsE_I32 (l : List Int) : noIdsE (I32 l) = true := noIdsE_map _ (fun x => by simp [noIdsL, noIds]) l
/-- The program's arena. -/
structure AR where
  slots : List Slt
  freed : List Int
  next : Int
  live : Int
def arIs (A : AR) (i : Int) : Bool := decide (0 < i) && decide (i < A.slots.length) && (A.slots.getD i.toNat slt0).tk
def arAt (A : AR) (i : Int) : Nd := if arIs A i then (A.slots.getD i.toNat slt0).nd else nd0
def arSet (A : AR) (i : Int) (x : Nd) : AR × Bool := if arIs A i then (⟨A.slots.set i.toNat ⟨x, true⟩, A.freed, A.next, A.live⟩, true) else (A, false)
def arFree (A : AR) (i : Int) : AR × Bool := if arIs A i then (⟨A.slots.set i.toNat slt0, A.freed ++ [i], A.next, A.live - 1⟩, true) else (A, false)
def lastI (l : List Int) : Int := (l[l.length - 1]?).getD 0
theorem lastI_get {l : List Int} (h : l ≠ []) : l[l.length - 1]? = some (lastI l) := by
  have h0 := List.length_pos_iff.2 h
  unfold lastI
  rw [List.getElem?_eq_getElem (by omega)]; rfl
def arAlloc (A : AR) : AR × Int :=
  if A.freed ≠ [] then (⟨A.slots.set (lastI A.freed).toNat ⟨nd0, true⟩, A.freed.take (A.freed.length - 1), A.next, A.live + 1⟩, lastI A.freed)
  else if A.next = A.slots.length then (⟨(A.slots ++ List.replicate A.slots.length slt0).set A.next.toNat ⟨nd0, true⟩, [], A.next + 1, A.live + 1⟩, A.next)
  else (⟨A.slots.set A.next.toNat ⟨nd0, true⟩, [], A.next + 1, A.live + 1⟩, A.next)
def arNew (room : Int) : AR := ⟨List.replicate (1 + (if 1048576 < (if 1 > room then 1 else room) then 1048576 else (if 1 > room then 1 else room))).toNat slt0, [], 1, 0⟩
/-- What the program's arena keeps. -/
structure ArOk (A : AR) : Prop where
  n0 : 1 ≤ A.next
  n1 : A.next ≤ A.slots.length
  fr : ∀ i ∈ A.freed, 0 < i ∧ i < A.slots.length
  fl : A.freed.length ≤ A.slots.length
  l0 : 0 ≤ A.live
  l1 : A.live ≤ A.slots.length
/-- The reference's arena. -/
structure RA where
  len : Int
  ever : Int
  freed : List Int
  nodes : List Nd
def raIs (R : RA) (i : Int) : Bool := decide (0 < i) && decide (i ≤ R.ever) && !decide (i ∈ R.freed)
def raAt (R : RA) (i : Int) : Nd := if raIs R i then R.nodes.getD i.toNat nd0 else nd0
def raSet (R : RA) (i : Int) (x : Nd) : RA × Bool := if raIs R i then (⟨R.len, R.ever, R.freed, R.nodes.set i.toNat x⟩, true) else (R, false)
def raFree (R : RA) (i : Int) : RA × Bool := if raIs R i then (⟨R.len, R.ever, R.freed ++ [i], R.nodes⟩, true) else (R, false)
def raAlloc (R : RA) : RA × Int :=
  if R.freed ≠ [] then ((raSet ⟨R.len, R.ever, R.freed.take (R.freed.length - 1), R.nodes⟩ (lastI R.freed) nd0).1, lastI R.freed)
  else (⟨(if R.ever + 1 ≥ R.len then 2 * R.len else R.len), R.ever + 1, [], R.nodes ++ [nd0]⟩, R.ever + 1)
def raNew (room : Int) : RA := ⟨1 + (if 1048576 < (if 1 > room then 1 else room) then 1048576 else (if 1 > room then 1 else room)), 0, [], [nd0]⟩
def raLive (R : RA) : Int := R.ever - R.freed.length
structure RaOk (R : RA) : Prop where
  e0 : 0 ≤ R.ever
  e1 : R.ever < R.len
  nd : R.nodes.length = R.ever.toNat + 1
  fr : ∀ i ∈ R.freed, 0 < i ∧ i ≤ R.ever
  dup : R.freed.Nodup
/-- The program's arena, of the reference's. -/
def slotR (R : RA) (i : Nat) : Slt := if raIs R i then ⟨R.nodes.getD i nd0, true⟩ else slt0
def arnOf (R : RA) : AR := ⟨(List.range R.len.toNat).map (slotR R), R.freed, R.ever + 1, raLive R⟩
end Go.Al
