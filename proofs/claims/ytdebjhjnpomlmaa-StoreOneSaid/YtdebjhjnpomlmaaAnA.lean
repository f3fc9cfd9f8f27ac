/- Slots that are taken and freed: what acts make, of rows alone. Conditions: none. Slots that are taken and freed: the program's rows are the reference's. Conditions: none. Slots that are taken and freed, by the program: what is told of them. Conditions: the rows are short. Slots that are taken and freed, by the program: how one is freed, and taken. Conditions: the rows are short. Slots that are taken and freed, by the program: how one is taken, and a new arena. Conditions: the rows are short. Slots that are taken and freed, by the program: how one is taken. Conditions: the rows are short. Slots that are taken and freed: the reference. Conditions: the rows are short. Slots that are taken and freed: the reference's acts, and the program's. Conditions: the rows are short. Slots that are taken and freed, by the program, told of the reference's state. Conditions: the rows are short. -/
import Derived.Test.YtdebjhjnpomlmaaTy
section
set_option linter.unusedVariables false
set_option linter.unusedSimpArgs false
namespace Go.Al
structure Nd where
  key : Int
  val : Int
  flag : Int
  tag : Int
  prev : Int
  next : Int
  deriving DecidableEq, Inhabited
def Nd.cells (x : Nd) : List AV := [.sc (.int .u64 x.key), .sc (.int .u64 x.val), .sc (.int .i64 x.flag), .sc (.int .i64 x.tag), .sc (.int .i32 x.prev), .sc (.int .i32 x.next)]
def nd0 : Nd := ⟨0, 0, 0, 0, 0, 0⟩
structure Slt where
  nd : Nd
  tk : Bool
  deriving DecidableEq, Inhabited
def Slt.cells (x : Slt) : List AV := [.sc (.int .u64 x.nd.key), .sc (.int .u64 x.nd.val), .sc (.int .i64 x.nd.flag), .sc (.int .i64 x.nd.tag), .sc (.int .i32 x.nd.prev), .sc (.int .i32 x.nd.next), .sc (.bool x.tk)]
def slt0 : Slt := ⟨nd0, false⟩
def SL (l : List Slt) : List (List AV) := l.map Slt.cells
theorem SL_len (l : List Slt) : (SL l).length = l.length := by simp [SL]
theorem SL_get {l : List Slt} {p : Nat} {x : Slt} (h : l[p]? = some x) : (SL l)[p]? = some [.sc (.int .u64 x.nd.key), .sc (.int .u64 x.nd.val), .sc (.int .i64 x.nd.flag), .sc (.int .i64 x.nd.tag), .sc (.int .i32 x.nd.prev), .sc (.int .i32 x.nd.next), .sc (.bool x.tk)] := by simp [SL, h, Slt.cells]
theorem SL_set (l : List Slt) (p : Nat) (x : Slt) : (SL l).set p [.sc (.int .u64 x.nd.key), .sc (.int .u64 x.nd.val), .sc (.int .i64 x.nd.flag), .sc (.int .i64 x.nd.tag), .sc (.int .i32 x.nd.prev), .sc (.int .i32 x.nd.next), .sc (.bool x.tk)] = SL (l.set p x) := by simp [SL, List.map_set, Slt.cells]
theorem SL_rep (m : Nat) : List.replicate m [.sc (.int .u64 0), .sc (.int .u64 0), .sc (.int .i64 0), .sc (.int .i64 0), .sc (.int .i32 0), .sc (.int .i32 0), .sc (.bool false)] = SL (List.replicate m slt0) := by simp [SL, Slt.cells, slt0, nd0]
theorem SL_append (a b : List Slt) : SL (a ++ b) = SL a ++ SL b := by simp [SL]
theorem SL_take (a : List Slt) (n : Nat) : (SL a).take n = SL (a.take n) := by simp [SL]
theorem SL_drop (a : List Slt) (n : Nat) : (SL a).drop n = SL (a.drop n) := by simp [SL]
def I32 (l : List Int) : List (List AV) := l.map fun x => [.sc (.int .i32 x)]
theorem I32_len (l : List Int) : (I32 l).length = l.length := by simp [I32]
theorem I32_get {l : List Int} {p : Nat} {x : Int} (h : l[p]? = some x) : (I32 l)[p]? = some [.sc (.int .i32 x)] := by simp [I32, h]
theorem I32_snoc (l : List Int) (x : Int) : I32 (l ++ [x]) = I32 l ++ [[.sc (.int .i32 x)]] := by simp [I32]
theorem I32_take (a : List Int) (k : Nat) : (I32 a).take k = I32 (a.take k) := by simp [I32]
theorem I32_drop (a : List Int) (k : Nat) : (I32 a).drop k = I32 (a.drop k) := by simp [I32]
theorem I32_append (a b : List Int) : I32 (a ++ b) = I32 a ++ I32 b := by simp [I32]
theorem I32_nil : I32 [] = [] := rfl
theorem noIdsE_I32 (l : List Int) : noIdsE (I32 l) = true := noIdsE_map _ (fun x => by simp [noIdsL, noIds]) l
/-- The program's arena. -/
structure AR where
  slots : List Slt
  freed : List Int
  next : Int
  live : Int
def arIs (A : AR) (i : Int) : Bool := decide (0 < i) && decide (i < A.slots.length) && (A.slots.getD i.toNat slt0).tk
def arAt (A : AR) (i : Int) : Nd := if arIs A i then (A.slots.getD i.toNat slt0).nd else nd0
def arSet (A : AR) (i : Int) (x : Nd) : AR × Bool := if arIs A i then (⟨A.slots.set i.toNat ⟨x, true⟩, A.freed, A.next, A.live⟩, true) else (A, false)
def arFree (A : AR) (i : Int) : AR × Bool := if arIs A i then (⟨A.slots.set i.toNat slt0, A.freed ++ [i], A.next, A.live - 1⟩, true) else (A, false)
def lastI (l : List Int) : Int := (l[l.length - 1]?).getD 0
theorem lastI_get {l : List Int} (h : l ≠ []) : l[l.length - 1]? = some (lastI l) := by
  have h0 := List.length_pos_iff.2 h
  unfold lastI
  rw [List.getElem?_eq_getElem (by omega)]; rfl
def arAlloc (A : AR) : AR × Int :=
  if A.freed ≠ [] then (⟨A.slots.set (lastI A.freed).toNat ⟨nd0, true⟩, A.freed.take (A.freed.length - 1), A.next, A.live + 1⟩, lastI A.freed)
  else if A.next = A.slots.length then (⟨(A.slots ++ List.replicate A.slots.length slt0).set A.next.toNat ⟨nd0, true⟩, [], A.next + 1, A.live + 1⟩, A.next)
  else (⟨A.slots.set A.next.toNat ⟨nd0, true⟩, [], A.next + 1, A.live + 1⟩, A.next)
def arNew (room : Int) : AR := ⟨List.replicate (1 + (if 1048576 < (if 1 > room then 1 else room) then 1048576 else (if 1 > room then 1 else room))).toNat slt0, [], 1, 0⟩
/-- What the program's arena keeps. -/
structure ArOk (A : AR) : Prop where
  n0 : 1 ≤ A.next
  n1 : A.next ≤ A.slots.length
  fr : ∀ i ∈ A.freed, 0 < i ∧ i < A.slots.length
  fl : A.freed.length ≤ A.slots.length
  l0 : 0 ≤ A.live
  l1 : A.live ≤ A.slots.length
/-- The reference's arena. -/
structure RA where
  len : Int
  ever : Int
  freed : List Int
  nodes : List Nd
def raIs (R : RA) (i : Int) : Bool := decide (0 < i) && decide (i ≤ R.ever) && !decide (i ∈ R.freed)
def raAt (R : RA) (i : Int) : Nd := if raIs R i then R.nodes.getD i.toNat nd0 else nd0
def raSet (R : RA) (i : Int) (x : Nd) : RA × Bool := if raIs R i then (⟨R.len, R.ever, R.freed, R.nodes.set i.toNat x⟩, true) else (R, false)
def raFree (R : RA) (i : Int) : RA × Bool := if raIs R i then (⟨R.len, R.ever, R.freed ++ [i], R.nodes⟩, true) else (R, false)
def raAlloc (R : RA) : RA × Int :=
  if R.freed ≠ [] then ((raSet ⟨R.len, R.ever, R.freed.take (R.freed.length - 1), R.nodes⟩ (lastI R.freed) nd0).1, lastI R.freed)
  else (⟨(if R.ever + 1 ≥ R.len then 2 * R.len else R.len), R.ever + 1, [], R.nodes ++ [nd0]⟩, R.ever + 1)
def raNew (room : Int) : RA := ⟨1 + (if 1048576 < (if 1 > room then 1 else room) then 1048576 else (if 1 > room then 1 else room)), 0, [], [nd0]⟩
def raLive (R : RA) : Int := R.ever - R.freed.length
structure RaOk (R : RA) : Prop where
  e0 : 0 ≤ R.ever
  e1 : R.ever < R.len
  nd : R.nodes.length = R.ever.toNat + 1
  fr : ∀ i ∈ R.freed, 0 < i ∧ i ≤ R.ever
  dup : R.freed.Nodup
/-- The program's arena, of the reference's. -/
def slotR (R : RA) (i : Nat) : Slt := if raIs R i then ⟨R.nodes.getD i nd0, true⟩ else slt0
def arnOf (R : RA) : AR := ⟨(List.range R.len.toNat).map (slotR R), R.freed, R.ever + 1, raLive R⟩
end Go.Al
end
section
set_option linter.unusedVariables false
set_option linter.unusedSimpArgs false
namespace Go.Al
theorem slots_set {R R' : RA} {j : Nat} {v : Slt} (hl : R'.len = R.len) (h1 : slotR R' j = v) (h2 : ∀ i, i ≠ j → slotR R' i = slotR R i) :
    ((List.range R.len.toNat).map (slotR R)).set j v = (List.range R'.len.toNat).map (slotR R') := by
  apply List.ext_getElem?
  intro i
  rw [hl, List.getElem?_set]
  by_cases e : j = i
  · subst e
    by_cases hj : j < R.len.toNat
    · simp [hj, h1]
    · simp [hj]
  · rw [if_neg e]
    by_cases hi : i < R.len.toNat
    · simp [hi, h2 i (fun h => e h.symm)]
    · simp [hi]
theorem slots_len (R : RA) : (arnOf R).slots.length = R.len.toNat := by simp [arnOf]
theorem slots_get (R : RA) (i : Nat) (hi : i < R.len.toNat) : (arnOf R).slots.getD i slt0 = slotR R i := by
  simp [arnOf, List.getD_eq_getElem?_getD, hi]
theorem ra_rng {R : RA} (h : RaOk R) {i : Int} (hi : raIs R i = true) : 0 < i ∧ i ≤ R.ever ∧ i ∉ R.freed := by
  unfold raIs at hi
  simpa [and_assoc] using hi
theorem ra_of {R : RA} {i : Int} (h0 : 0 < i) (h1 : i ≤ R.ever) (h2 : i ∉ R.freed) : raIs R i = true := by
  unfold raIs
  simp [h0, h1, h2]
theorem arIs_of {R : RA} (h : RaOk R) (i : Int) : arIs (arnOf R) i = raIs R i := by
  have e1 := h.e1
  unfold arIs
  rw [slots_len]
  by_cases h0 : 0 < i
  · by_cases h1 : i < R.len
    · have h2 : i < (R.len.toNat : Int) := by omega
      rw [slots_get R _ (by omega)]
      unfold slotR
      rw [show ((i.toNat : Nat) : Int) = i from by omega]
      rw [decide_eq_true h0, decide_eq_true h2]
      by_cases hr : raIs R i = true
      · simp [hr]
      · simp only [Bool.not_eq_true] at hr
        simp [hr, slt0]
    · have h2 : ¬ i < (R.len.toNat : Int) := by have := h.e0; omega
      have : raIs R i = false := by
        rw [Bool.eq_false_iff]
        intro hr
        have := ra_rng h hr
        omega
      rw [decide_eq_false h2, this]
      simp
  · have : raIs R i = false := by
      rw [Bool.eq_false_iff]
      intro hr
      have := ra_rng h hr
      omega
    simp [h0, this]
theorem slotR_in {R : RA} {i : Int} (h0 : 0 ≤ i) : slotR R i.toNat = if raIs R i then ⟨R.nodes.getD i.toNat nd0, true⟩ else slt0 := by
  unfold slotR
  rw [show ((i.toNat : Nat) : Int) = i from by omega]
theorem arAt_of {R : RA} (h : RaOk R) (i : Int) : arAt (arnOf R) i = raAt R i := by
  unfold arAt raAt
  rw [arIs_of h]
  by_cases hr : raIs R i = true
  · have h1 := ra_rng h hr
    have h2 := h.e1
    rw [if_pos hr, if_pos hr, slots_get R _ (by omega), slotR_in (by omega), if_pos hr]
  · rw [if_neg hr, if_neg hr]
theorem arSet_of {R : RA} (h : RaOk R) (i : Int) (x : Nd) : arSet (arnOf R) i x = (arnOf (raSet R i x).1, (raSet R i x).2) ∧ RaOk (raSet R i x).1 := by
  unfold arSet raSet
  rw [arIs_of h]
  by_cases hr : raIs R i = true
  · have h1 := ra_rng h hr
    have h2 := h.e1
    have h3 := h.nd
    rw [if_pos hr, if_pos hr]
    refine ⟨?_, ⟨h.e0, h.e1, by simp [h.nd], h.fr, h.dup⟩⟩
    have hs : ∀ j : Int, raIs ⟨R.len, R.ever, R.freed, R.nodes.set i.toNat x⟩ j = raIs R j := fun j => rfl
    have := slots_set (R := R) (R' := ⟨R.len, R.ever, R.freed, R.nodes.set i.toNat x⟩) (j := i.toNat) (v := ⟨x, true⟩) rfl (by
      rw [slotR_in (by omega), hs, if_pos hr]
      have : i.toNat < R.nodes.length := by omega
      simp [List.getD_eq_getElem?_getD, this]) (by
      intro k hk
      unfold slotR
      rw [hs]
      have : ¬ i.toNat = k := fun e => hk e.symm
      simp [List.getD_eq_getElem?_getD, List.getElem?_set, this])
    simp only [arnOf]
    rw [this]
    rfl
  · rw [if_neg hr, if_neg hr]
    exact ⟨rfl, h⟩
theorem arFree_of {R : RA} (h : RaOk R) (i : Int) : arFree (arnOf R) i = (arnOf (raFree R i).1, (raFree R i).2) ∧ RaOk (raFree R i).1 := by
  unfold arFree raFree
  rw [arIs_of h]
  by_cases hr : raIs R i = true
  · have h1 := ra_rng h hr
    have h2 := h.e1
    rw [if_pos hr, if_pos hr]
    refine ⟨?_, ⟨h.e0, h.e1, h.nd, ?_, ?_⟩⟩
    · have := slots_set (R := R) (R' := ⟨R.len, R.ever, R.freed ++ [i], R.nodes⟩) (j := i.toNat) (v := slt0) rfl (by
        rw [slotR_in (by omega)]
        unfold raIs
        simp) (by
        intro k hk
        unfold slotR raIs
        have : ¬ (k : Int) = i := fun e => hk (by omega)
        simp [this])
      simp only [arnOf]
      rw [this]
      simp [raLive]
      omega
    · intro j hj
      rcases List.mem_append.1 hj with hj | hj
      · exact h.fr j hj
      · rw [List.mem_singleton] at hj
        subst hj
        exact ⟨h1.1, h1.2.1⟩
    · show (R.freed ++ [i]).Nodup
      rw [List.nodup_append]
      refine ⟨h.dup, by simp, ?_⟩
      rintro a ha b hb rfl
      rw [List.mem_singleton] at hb
      subst hb
      exact h1.2.2 ha
  · rw [if_neg hr, if_neg hr]
    exact ⟨rfl, h⟩
theorem split_last {l : List Int} (h : l ≠ []) : l = l.take (l.length - 1) ++ [lastI l] := by
  have h0 := List.length_pos_iff.2 h
  have h1 := lastI_get h
  have := List.take_add_one (l := l) (i := l.length - 1)
  rw [h1, Nat.sub_add_cancel h0, List.take_length] at this
  simpa using this
theorem arAlloc_of {R : RA} (h : RaOk R) : arAlloc (arnOf R) = (arnOf (raAlloc R).1, (raAlloc R).2) ∧ RaOk (raAlloc R).1 ∧ raIs R (raAlloc R).2 = false ∧ raIs (raAlloc R).1 (raAlloc R).2 = true ∧ raAt (raAlloc R).1 (raAlloc R).2 = nd0 := by
  have e0 := h.e0
  have e1 := h.e1
  unfold arAlloc raAlloc
  by_cases hf : R.freed = []
  · have h1 : ¬ (arnOf R).freed ≠ [] := by simp [arnOf, hf]
    have h2 : ¬ R.freed ≠ [] := by simp [hf]
    rw [if_neg h1, if_neg h2]
    have hnext : (arnOf R).next = R.ever + 1 := rfl
    have hlive : (arnOf R).live = R.ever := by simp [arnOf, raLive, hf]
    have hold : raIs R (R.ever + 1) = false := by
      rw [Bool.eq_false_iff]
      intro hr
      have := ra_rng h hr
      omega
    have hnew : ∀ L : Int, raIs ⟨L, R.ever + 1, [], R.nodes ++ [nd0]⟩ (R.ever + 1) = true := fun L => ra_of (by omega) (by show R.ever + 1 ≤ R.ever + 1; omega) (by simp)
    have hnn : (R.nodes ++ [nd0]).getD (R.ever + 1).toNat nd0 = nd0 := by
      have : (R.ever + 1).toNat = R.nodes.length := by rw [h.nd]; omega
      rw [this]
      simp [List.getD_eq_getElem?_getD]
    have hkeep : ∀ (L : Int) (i : Nat), i ≠ (R.ever + 1).toNat → slotR ⟨L, R.ever + 1, [], R.nodes ++ [nd0]⟩ i = slotR R i := by
      intro L i hi
      unfold slotR raIs
      rw [hf]
      have hb : decide ((i : Int) ≤ R.ever + 1) = decide ((i : Int) ≤ R.ever) := by
        rw [decide_eq_decide]; omega
      simp only [hb]
      by_cases hc : (i : Int) ≤ R.ever
      · have : i < R.nodes.length := by rw [h.nd]; omega
        simp [List.getD_eq_getElem?_getD, List.getElem?_append_left this]
      · simp [hc]
    have hself : ∀ (L : Int), slotR ⟨L, R.ever + 1, [], R.nodes ++ [nd0]⟩ (R.ever + 1).toNat = ⟨nd0, true⟩ := by
      intro L
      rw [slotR_in (by omega), if_pos (hnew L), hnn]
    have hat : ∀ (L : Int), raAt ⟨L, R.ever + 1, [], R.nodes ++ [nd0]⟩ (R.ever + 1) = nd0 := by
      intro L
      unfold raAt
      rw [if_pos (hnew L)]
      exact hnn
    rw [hnext, hlive, slots_len]
    by_cases hg : R.ever + 1 = (R.len.toNat : Int)
    · have hg2 : R.ever + 1 ≥ R.len := by omega
      rw [if_pos hg, if_pos hg2]
      refine ⟨?_, ⟨by show 0 ≤ R.ever + 1; omega, by show R.ever + 1 < 2 * R.len; omega, by show (R.nodes ++ [nd0]).length = (R.ever + 1).toNat + 1; rw [List.length_append, h.nd]; simp; omega, by simp, by simp⟩, hold, hnew _, hat _⟩
      have hd : (arnOf R).slots ++ List.replicate R.len.toNat slt0 = (List.range (2 * R.len).toNat).map (slotR ⟨2 * R.len, R.ever, R.freed, R.nodes⟩) := by
        apply List.ext_getElem?
        intro i
        rw [List.getElem?_append, slots_len]
        by_cases hi : i < R.len.toNat
        · rw [if_pos hi]
          have hi2 : i < (2 * R.len).toNat := by omega
          simp [arnOf, hi, hi2]
          rfl
        · rw [if_neg hi]
          by_cases hi2 : i < (2 * R.len).toNat
          · have hi3 : i - R.len.toNat < R.len.toNat := by omega
            have hne : ¬ (i : Int) ≤ R.ever := by omega
            simp [hi2, List.getElem?_replicate, hi3, slotR, raIs, hne]
          · have hi3 : ¬ i - R.len.toNat < R.len.toNat := by omega
            simp [hi2, List.getElem?_replicate, hi3]
      rw [hd]
      have := slots_set (R := ⟨2 * R.len, R.ever, R.freed, R.nodes⟩) (R' := ⟨2 * R.len, R.ever + 1, [], R.nodes ++ [nd0]⟩) (j := (R.ever + 1).toNat) (v := ⟨nd0, true⟩) rfl (hself _) (fun i hi => hkeep _ i hi)
      rw [this]
      simp [arnOf, raLive]
    · have hg2 : ¬ R.ever + 1 ≥ R.len := by omega
      rw [if_neg hg, if_neg hg2]
      refine ⟨?_, ⟨by show 0 ≤ R.ever + 1; omega, by show R.ever + 1 < R.len; omega, by show (R.nodes ++ [nd0]).length = (R.ever + 1).toNat + 1; rw [List.length_append, h.nd]; simp; omega, by simp, by simp⟩, hold, hnew _, hat _⟩
      have := slots_set (R := R) (R' := ⟨R.len, R.ever + 1, [], R.nodes ++ [nd0]⟩) (j := (R.ever + 1).toNat) (v := ⟨nd0, true⟩) rfl (hself _) (fun i hi => hkeep _ i hi)
      have he : (arnOf R).slots = (List.range R.len.toNat).map (slotR R) := rfl
      rw [he, this]
      simp [arnOf, raLive]
  · have h1 : (arnOf R).freed ≠ [] := hf
    rw [if_pos h1, if_pos hf]
    have hsp := split_last hf
    have hm : lastI R.freed ∈ R.freed := List.mem_of_getElem? (lastI_get hf)
    obtain ⟨q0, q1⟩ := h.fr _ hm
    have hdup := h.dup
    rw [hsp, List.nodup_append] at hdup
    have hnot : lastI R.freed ∉ R.freed.take (R.freed.length - 1) := fun hc => hdup.2.2 _ hc _ (by simp) rfl
    have hok : RaOk ⟨R.len, R.ever, R.freed.take (R.freed.length - 1), R.nodes⟩ := ⟨h.e0, h.e1, h.nd, fun i hi => h.fr i (List.mem_of_mem_take hi), hdup.1⟩
    have his : raIs ⟨R.len, R.ever, R.freed.take (R.freed.length - 1), R.nodes⟩ (lastI R.freed) = true := ra_of q0 q1 hnot
    have hold : raIs R (lastI R.freed) = false := by unfold raIs; simp [hm]
    have hset : raSet ⟨R.len, R.ever, R.freed.take (R.freed.length - 1), R.nodes⟩ (lastI R.freed) nd0 = (⟨R.len, R.ever, R.freed.take (R.freed.length - 1), R.nodes.set (lastI R.freed).toNat nd0⟩, true) := by
      unfold raSet
      rw [if_pos his]
    rw [hset]
    refine ⟨?_, ⟨h.e0, h.e1, by simp [h.nd], fun i hi => h.fr i (List.mem_of_mem_take hi), hdup.1⟩, hold, his, ?_⟩
    · have hb : (lastI R.freed).toNat < R.nodes.length := by rw [h.nd]; omega
      have := slots_set (R := R) (R' := ⟨R.len, R.ever, R.freed.take (R.freed.length - 1), R.nodes.set (lastI R.freed).toNat nd0⟩) (j := (lastI R.freed).toNat) (v := ⟨nd0, true⟩) rfl (by
        rw [slotR_in (by omega)]
        have : raIs ⟨R.len, R.ever, R.freed.take (R.freed.length - 1), R.nodes.set (lastI R.freed).toNat nd0⟩ (lastI R.freed) = true := his
        rw [if_pos this]
        simp [List.getD_eq_getElem?_getD, hb]) (by
        intro i hi
        have h3 : ¬ (i : Int) = lastI R.freed := fun e => hi (by omega)
        have h4 : raIs ⟨R.len, R.ever, R.freed.take (R.freed.length - 1), R.nodes.set (lastI R.freed).toNat nd0⟩ i = raIs R i := by
          unfold raIs
          congr 2
          rw [decide_eq_decide]
          conv => rhs; rw [hsp]
          simp [h3]
        have h5 : ¬ (lastI R.freed).toNat = i := fun e => hi e.symm
        unfold slotR
        rw [h4]
        simp [List.getD_eq_getElem?_getD, List.getElem?_set, h5])
      have he : (arnOf R).slots = (List.range R.len.toNat).map (slotR R) := rfl
      have hfr : (arnOf R).freed = R.freed := rfl
      rw [hfr, he, this]
      simp only [arnOf, raLive, List.length_take]
      have := List.length_pos_iff.2 hf
      refine Prod.ext ?_ rfl
      simp only [AR.mk.injEq, true_and]
      omega
    · unfold raAt
      rw [if_pos (show raIs ⟨R.len, R.ever, R.freed.take (R.freed.length - 1), R.nodes.set (lastI R.freed).toNat nd0⟩ (lastI R.freed) = true from his)]
      have hb : (lastI R.freed).toNat < R.nodes.length := by rw [h.nd]; omega
      simp [List.getD_eq_getElem?_getD, hb]
theorem arNew_of (room : Int) : arNew room = arnOf (raNew room) ∧ RaOk (raNew room) := by
  have hr : 1 ≤ (if 1048576 < (if 1 > room then 1 else room) then (1048576 : Int) else (if 1 > room then 1 else room)) := by
    by_cases h : 1 > room <;> simp [h] <;> (try split) <;> omega
  unfold arNew raNew
  generalize (if 1048576 < (if 1 > room then 1 else room) then (1048576 : Int) else (if 1 > room then 1 else room)) = q at *
  refine ⟨?_, ⟨by show (0 : Int) ≤ 0; omega, by show (0 : Int) < 1 + q; omega, rfl, by simp, by simp⟩⟩
  simp only [arnOf, raLive]
  have : (List.range (1 + q).toNat).map (slotR ⟨1 + q, 0, [], [nd0]⟩) = List.replicate (1 + q).toNat slt0 := by
    rw [List.eq_replicate_iff]
    refine ⟨by simp, fun b hb => ?_⟩
    obtain ⟨i, hi, rfl⟩ := List.mem_map.1 hb
    have hr : raIs ⟨1 + q, 0, [], [nd0]⟩ i = false := by
      rw [Bool.eq_false_iff]
      intro hr
      unfold raIs at hr
      simp at hr
      omega
    unfold slotR
    rw [hr]
    rfl
  rw [this]
  simp
theorem pigeon : ∀ (n : Nat) (l : List Int), l.Nodup → (∀ i ∈ l, 0 < i ∧ i ≤ (n : Int)) → l.length ≤ n
  | 0, l, _, h => by
    cases l with
    | nil => simp
    | cons a l => have := h a (by simp); omega
  | n + 1, l, hd, h => by
    by_cases hm : ((n + 1 : Nat) : Int) ∈ l
    · have h1 := pigeon n (l.erase ((n + 1 : Nat) : Int)) (hd.erase _) (fun i hi => by
        have h2 := (List.Nodup.mem_erase_iff hd).1 hi
        have h3 := h i h2.2
        have h4 := h2.1
        omega)
      rw [List.length_erase_of_mem hm] at h1
      omega
    · have := pigeon n l hd (fun i hi => by
        have h3 := h i hi
        have h4 : i ≠ ((n + 1 : Nat) : Int) := fun e => hm (e ▸ hi)
        omega)
      omega
theorem ra_free_len {R : RA} (h : RaOk R) : (R.freed.length : Int) ≤ R.ever := by
  have := pigeon R.ever.toNat R.freed h.dup (fun i hi => by have := h.fr i hi; omega)
  have := h.e0
  omega
theorem arOk_of {R : RA} (h : RaOk R) : ArOk (arnOf R) := by
  have hl := ra_free_len h
  have e0 := h.e0
  have e1 := h.e1
  refine ⟨by show 1 ≤ R.ever + 1; omega, by rw [slots_len]; show R.ever + 1 ≤ _; omega, ?_, by rw [slots_len]; show R.freed.length ≤ _; omega, by show 0 ≤ raLive R; unfold raLive; omega, by rw [slots_len]; show raLive R ≤ _; unfold raLive; omega⟩
  intro i hi
  have := h.fr i hi
  rw [slots_len]
  omega
end Go.Al
end
section
set_option linter.unusedVariables false
set_option linter.unusedSimpArgs false
set_option maxRecDepth 20000
set_option maxHeartbeats 1600000
namespace Go.Al
open Go.Proofs
/-- Where an arena lies: its struct at a, its slots at s, the freed ones as fv; all below n. -/
structure ArH (H : AH) (n a s : Nat) (fv : AV) (A : AR) : Prop where
  ha : H a = some (.obj 100 4 [[.sl s 7 0 A.slots.length, fv, .sc (.int .i64 A.next), .sc (.int .i64 A.live)]] false)
  hs : H s = some (.obj 115 7 (SL A.slots) false)
  hf : Live 21 1 H (I32 A.freed) fv
  la : a < n
  ls : s < n
  lf : ∀ f m, fv = .sl f 1 0 m → f < n
/-- The objects that an arena has. -/
def ArOwn (a s : Nat) (fv : AV) (j : Nat) : Prop := j = a ∨ j = s ∨ ∃ m, fv = .sl j 1 0 m
theorem ArH.ne {H : AH} {n a s : Nat} {fv : AV} {A : AR} (h : ArH H n a s fv A) : a ≠ s := by
  rintro rfl
  have := h.ha.symm.trans h.hs
  simp at this
theorem ArH.keep {H H' : AH} {n n' a s : Nat} {fv : AV} {A : AR} (h : ArH H n a s fv A) (hn : n ≤ n') (hk : ∀ j, j < n → ArOwn a s fv j → H' j = H j) : ArH H' n' a s fv A := by
  refine ⟨by rw [hk _ h.la (.inl rfl)]; exact h.ha, by rw [hk _ h.ls (.inr (.inl rfl))]; exact h.hs, ?_, Nat.lt_of_lt_of_le h.la hn, Nat.lt_of_lt_of_le h.ls hn, fun f m e => Nat.lt_of_lt_of_le (h.lf f m e) hn⟩
  rcases h.hf with ⟨h1, h2⟩ | ⟨id, h1, h2⟩
  · exact .inl ⟨h1, h2⟩
  · exact .inr ⟨id, h1, by rw [hk _ (h.lf _ _ h1) (.inr (.inr ⟨_, h1⟩))]; exact h2⟩
theorem ArH.new {H : AH} {n a s : Nat} {fv : AV} {A : AR} {x : Option AO} (h : ArH H n a s fv A) : ArH (upd H n x) (n + 1) a s fv A :=
  h.keep (by omega) fun j hj _ => upd_ne _ _ (by omega)
def I32ok (i : Int) : Prop := -2147483648 ≤ i ∧ i ≤ 2147483647
theorem i32_wrap {i : Int} (h : I32ok i) : IntKind.i64.wrap i = i := IntWalk.i64_in _ ⟨by have := h.1; omega, by have := h.2; omega⟩
theorem arIs_get {A : AR} {i : Int} (h0 : i > 0) (h1 : i < A.slots.length) : ∃ x, A.slots[i.toNat]? = some x ∧ arIs A i = x.tk ∧ A.slots.getD i.toNat slt0 = x := by
  have hlt : i.toNat < A.slots.length := by omega
  refine ⟨A.slots[i.toNat], List.getElem?_eq_getElem hlt, ?_, by simp [List.getD_eq_getElem?_getD, hlt]⟩
  unfold arIs
  rw [decide_eq_true (show 0 < i from h0), decide_eq_true h1]
  simp [List.getD_eq_getElem?_getD, hlt]
theorem arIs_no1 {A : AR} {i : Int} (h0 : ¬ i > 0) : arIs A i = false := by
  unfold arIs
  rw [decide_eq_false (show ¬ 0 < i from h0)]
  rfl
theorem arIs_no2 {A : AR} {i : Int} (h1 : ¬ i < A.slots.length) : arIs A i = false := by
  unfold arIs
  rw [decide_eq_false h1]
  simp
theorem arIs_yes {A : AR} {i : Int} (hc : arIs A i = true) : i > 0 ∧ i < A.slots.length := by
  refine ⟨?_, ?_⟩
  · by_cases h0 : i > 0
    · exact h0
    · rw [arIs_no1 h0] at hc; cases hc
  · by_cases h1 : i < A.slots.length
    · exact h1
    · rw [arIs_no2 h1] at hc; cases hc
theorem cArIs {H : AH} {n a s : Nat} {fv : AV} {A : AR} (h : ArH H n a s fv A) (i : Int) (hi : I32ok i) :
    HCalls Try.prog 70 [.ptr a 4 0 0, .sc (.int .i32 i)] H n fun r H' n' => r = .sc (.bool (arIs A i)) ∧ H' = H ∧ n' = n := by
  have ha := h.ha
  have hs := h.hs
  have hw := i32_wrap hi
  refine HCalls.walk Try.func70 rfl rfl Try.ntmps70 Try.results70 (by simp) ?_; simp (maxSteps := 400000) (dsimp := false) only [axs, AThen, ABlock, dstsOk, AStep, callsF, AWant, aop, AS.ev, AS.put, upd, AS.bound, abin, aint, aload, astore, cellsAt, AV.cells, alen, elems, AV.int?, FPost, aresL, ares1, pack, afill, splice, Value.oneCell', Nat.reduceLT, Nat.reduceLeDiff, Nat.reduceEqDiff, Nat.reduceAdd, Nat.reduceMul, Nat.reduceSub, Nat.reduceBEq, Int.reduceLE, Int.reduceLT, Int.reduceToNat, Int.reduceNeg, Int.reduceEq, axt, ftK, ft3, pickP, AScope, AAll, pickQ, ftQ, inHeap, tys]
  by_cases h0 : i > 0
  · by_cases h1 : i < A.slots.length
    · obtain ⟨x, hx, hx2, _⟩ := arIs_get h0 h1
      have hg := SL_get hx
      have h2 : 0 ≤ i := by omega
      simp (maxSteps := 400000) (dsimp := false) only [ha, hs, hw, h0, h1, hg, h2, axs, AThen, ABlock, dstsOk, AStep, callsF, AWant, aop, AS.ev, AS.put, upd, AS.bound, abin, aint, aload, astore, cellsAt, AV.cells, alen, elems, AV.int?, FPost, aresL, ares1, pack, afill, splice, Value.oneCell', Nat.reduceLT, Nat.reduceLeDiff, Nat.reduceEqDiff, Nat.reduceAdd, Nat.reduceMul, Nat.reduceSub, Nat.reduceBEq, Int.reduceLE, Int.reduceLT, Int.reduceToNat, Int.reduceNeg, Int.reduceEq, axt, ftK, ft3, pickP, AScope, AAll, pickQ, ftQ, inHeap, tys]
      rw [hx2]
      exact ⟨_, rfl, rfl⟩
    · simp (maxSteps := 400000) (dsimp := false) only [ha, hs, hw, h0, h1, axs, AThen, ABlock, dstsOk, AStep, callsF, AWant, aop, AS.ev, AS.put, upd, AS.bound, abin, aint, aload, astore, cellsAt, AV.cells, alen, elems, AV.int?, FPost, aresL, ares1, pack, afill, splice, Value.oneCell', Nat.reduceLT, Nat.reduceLeDiff, Nat.reduceEqDiff, Nat.reduceAdd, Nat.reduceMul, Nat.reduceSub, Nat.reduceBEq, Int.reduceLE, Int.reduceLT, Int.reduceToNat, Int.reduceNeg, Int.reduceEq, axt, ftK, ft3, pickP, AScope, AAll, pickQ, ftQ, inHeap, tys]
      rw [arIs_no2 h1]
      exact ⟨_, rfl, rfl⟩
  · simp (maxSteps := 400000) (dsimp := false) only [ha, hs, hw, h0, axs, AThen, ABlock, dstsOk, AStep, callsF, AWant, aop, AS.ev, AS.put, upd, AS.bound, abin, aint, aload, astore, cellsAt, AV.cells, alen, elems, AV.int?, FPost, aresL, ares1, pack, afill, splice, Value.oneCell', Nat.reduceLT, Nat.reduceLeDiff, Nat.reduceEqDiff, Nat.reduceAdd, Nat.reduceMul, Nat.reduceSub, Nat.reduceBEq, Int.reduceLE, Int.reduceLT, Int.reduceToNat, Int.reduceNeg, Int.reduceEq, axt, ftK, ft3, pickP, AScope, AAll, pickQ, ftQ, inHeap, tys]
    rw [arIs_no1 h0]
    exact ⟨_, rfl, rfl⟩
theorem cArAt {H : AH} {n a s : Nat} {fv : AV} {A : AR} (h : ArH H n a s fv A) (i : Int) (hi : I32ok i) :
    HCalls Try.prog 46 [.ptr a 4 0 0, .sc (.int .i32 i)] H n fun r H' n' => r = .agg (arAt A i).cells ∧ H' = upd H n (some (.obj 82 6 [(arAt A i).cells] false)) ∧ n' = n + 1 := by
  have ha := h.ha
  have hs := h.hs
  have ne1 : ¬ a = n := by have := h.la; omega
  have ne2 : ¬ s = n := by have := h.ls; omega
  refine HCalls.walk Try.func46 rfl rfl Try.ntmps46 Try.results46 (by simp) ?_; simp (maxSteps := 400000) (dsimp := false) only [axs, AThen, ABlock, dstsOk, AStep, callsF, AWant, aop, AS.ev, AS.put, upd, AS.bound, abin, aint, aload, astore, cellsAt, AV.cells, alen, elems, AV.int?, FPost, aresL, ares1, pack, afill, splice, Value.oneCell', Nat.reduceLT, Nat.reduceLeDiff, Nat.reduceEqDiff, Nat.reduceAdd, Nat.reduceMul, Nat.reduceSub, Nat.reduceBEq, Int.reduceLE, Int.reduceLT, Int.reduceToNat, Int.reduceNeg, Int.reduceEq, axt, ftK, ft3, pickP, AScope, AAll, pickQ, ftQ, inHeap, tys]
  refine ACallK.heap _ rfl (cArIs h.new i hi) ?_; rintro r' H' n' ⟨rfl, eH, en⟩; obtain rfl := eH.symm; obtain rfl := en.symm; clear eH en; simp (maxSteps := 400000) (dsimp := false) only [axs, AThen, ABlock, dstsOk, AStep, callsF, AWant, aop, AS.ev, AS.put, upd, AS.bound, abin, aint, aload, astore, cellsAt, AV.cells, alen, elems, AV.int?, FPost, aresL, ares1, pack, afill, splice, Value.oneCell', Nat.reduceLT, Nat.reduceLeDiff, Nat.reduceEqDiff, Nat.reduceAdd, Nat.reduceMul, Nat.reduceSub, Nat.reduceBEq, Int.reduceLE, Int.reduceLT, Int.reduceToNat, Int.reduceNeg, Int.reduceEq, axt, ftK, ft3, pickP, AScope, AAll, pickQ, ftQ, inHeap, tys]
  by_cases hc : arIs A i = true
  · obtain ⟨h0, h1⟩ := arIs_yes hc
    obtain ⟨x, hx, hx2, hx3⟩ := arIs_get h0 h1
    have hat : arAt A i = x.nd := by unfold arAt; rw [if_pos hc, hx3]
    have hg := SL_get hx
    have h2 : 0 ≤ i := by omega
    simp (maxSteps := 400000) (dsimp := false) only [ha, hs, hc, h1, hg, h2, ne1, ne2, axs, AThen, ABlock, dstsOk, AStep, callsF, AWant, aop, AS.ev, AS.put, upd, AS.bound, abin, aint, aload, astore, cellsAt, AV.cells, alen, elems, AV.int?, FPost, aresL, ares1, pack, afill, splice, Value.oneCell', Nat.reduceLT, Nat.reduceLeDiff, Nat.reduceEqDiff, Nat.reduceAdd, Nat.reduceMul, Nat.reduceSub, Nat.reduceBEq, Int.reduceLE, Int.reduceLT, Int.reduceToNat, Int.reduceNeg, Int.reduceEq, axt, ftK, ft3, pickP, AScope, AAll, pickQ, ftQ, inHeap, tys]
    rw [hat]
    exact ⟨_, rfl, rfl, upd_upd _ _ _ _⟩
  · have hc : arIs A i = false := by simpa using hc
    have hat : arAt A i = nd0 := by unfold arAt; rw [if_neg (by rw [hc]; simp)]
    simp (maxSteps := 400000) (dsimp := false) only [ha, hs, hc, ne1, ne2, axs, AThen, ABlock, dstsOk, AStep, callsF, AWant, aop, AS.ev, AS.put, upd, AS.bound, abin, aint, aload, astore, cellsAt, AV.cells, alen, elems, AV.int?, FPost, aresL, ares1, pack, afill, splice, Value.oneCell', Nat.reduceLT, Nat.reduceLeDiff, Nat.reduceEqDiff, Nat.reduceAdd, Nat.reduceMul, Nat.reduceSub, Nat.reduceBEq, Int.reduceLE, Int.reduceLT, Int.reduceToNat, Int.reduceNeg, Int.reduceEq, axt, ftK, ft3, pickP, AScope, AAll, pickQ, ftQ, inHeap, tys]
    rw [hat]
    exact ⟨_, rfl, rfl, upd_upd _ _ _ _⟩
theorem cArLen {H : AH} {n a s : Nat} {fv : AV} {A : AR} (h : ArH H n a s fv A) :
    HCalls Try.prog 41 [.ptr a 4 0 0] H n fun r H' n' => r = .sc (.int .i64 A.slots.length) ∧ H' = H ∧ n' = n := by
  have ha := h.ha
  refine HCalls.walk Try.func41 rfl rfl Try.ntmps41 Try.results41 (by simp) ?_; simp (maxSteps := 400000) (dsimp := false) only [ha, axs, AThen, ABlock, dstsOk, AStep, callsF, AWant, aop, AS.ev, AS.put, upd, AS.bound, abin, aint, aload, astore, cellsAt, AV.cells, alen, elems, AV.int?, FPost, aresL, ares1, pack, afill, splice, Value.oneCell', Nat.reduceLT, Nat.reduceLeDiff, Nat.reduceEqDiff, Nat.reduceAdd, Nat.reduceMul, Nat.reduceSub, Nat.reduceBEq, Int.reduceLE, Int.reduceLT, Int.reduceToNat, Int.reduceNeg, Int.reduceEq, axt, ftK, ft3, pickP, AScope, AAll, pickQ, ftQ, inHeap, tys]
  exact ⟨_, rfl, rfl⟩
/-- The objects behind a Set. -/
def setH (H : AH) (n s : Nat) (A : AR) (x : Nd) : AH := upd (upd H n (some (.obj 82 6 [x.cells] false))) s (some (.obj 115 7 (SL A.slots) false))
theorem ArH.set {H : AH} {n a s : Nat} {fv : AV} {A A' : AR} (h : ArH H n a s fv A) (x : Nd) (hl : A'.slots.length = A.slots.length) (hf : A'.freed = A.freed) (hn : A'.next = A.next) (hv : A'.live = A.live) : ArH (setH H n s A' x) (n + 1) a s fv A' := by
  obtain ⟨ha, hs, hff, la, ls, lf⟩ := h
  have hne : a ≠ s := (⟨ha, hs, hff, la, ls, lf⟩ : ArH H n a s fv A).ne
  refine ⟨?_, by unfold setH; rw [upd_same], ?_, by omega, by omega, fun f m e => by have := lf f m e; omega⟩
  · unfold setH
    rw [upd_ne _ _ hne, upd_ne _ _ (by omega), ha, hl, hn, hv]
  · rw [hf]
    rcases hff with ⟨h1, h2⟩ | ⟨id, h1, h2⟩
    · exact .inl ⟨h1, h2⟩
    · refine .inr ⟨id, h1, ?_⟩
      have : id ≠ s := by rintro rfl; rw [hs] at h2; simp at h2
      have h3 := lf _ _ h1
      unfold setH
      rw [upd_ne _ _ this, upd_ne _ _ (by omega)]
      exact h2
theorem arSet_rows (A : AR) (i : Int) (x : Nd) : (arSet A i x).1.slots.length = A.slots.length ∧ (arSet A i x).1.freed = A.freed ∧ (arSet A i x).1.next = A.next ∧ (arSet A i x).1.live = A.live := by
  unfold arSet
  split <;> simp
theorem cArSet {H : AH} {n a s : Nat} {fv : AV} {A : AR} (h : ArH H n a s fv A) (i : Int) (hi : I32ok i) (x : Nd) :
    HCalls Try.prog 74 [.ptr a 4 0 0, .sc (.int .i32 i), .agg x.cells] H n fun r H' n' => r = .sc (.bool (arSet A i x).2) ∧ H' = setH H n s (arSet A i x).1 x ∧ n' = n + 1 := by
  have ha := h.ha
  have hs := h.hs
  have ne1 : ¬ a = n := by have := h.la; omega
  have ne2 : ¬ s = n := by have := h.ls; omega
  have ne3 : ¬ n = s := fun e => ne2 e.symm
  refine HCalls.walk Try.func74 rfl rfl Try.ntmps74 Try.results74 (by simp) ?_; simp (maxSteps := 400000) (dsimp := false) only [Nd.cells, axs, AThen, ABlock, dstsOk, AStep, callsF, AWant, aop, AS.ev, AS.put, upd, AS.bound, abin, aint, aload, astore, cellsAt, AV.cells, alen, elems, AV.int?, FPost, aresL, ares1, pack, afill, splice, Value.oneCell', Nat.reduceLT, Nat.reduceLeDiff, Nat.reduceEqDiff, Nat.reduceAdd, Nat.reduceMul, Nat.reduceSub, Nat.reduceBEq, Int.reduceLE, Int.reduceLT, Int.reduceToNat, Int.reduceNeg, Int.reduceEq, axt, ftK, ft3, pickP, AScope, AAll, pickQ, ftQ, inHeap, tys]
  refine ACallK.heap _ rfl (cArIs h.new i hi) ?_; rintro r' H' n' ⟨rfl, eH, en⟩; obtain rfl := eH.symm; obtain rfl := en.symm; clear eH en; simp (maxSteps := 400000) (dsimp := false) only [axs, AThen, ABlock, dstsOk, AStep, callsF, AWant, aop, AS.ev, AS.put, upd, AS.bound, abin, aint, aload, astore, cellsAt, AV.cells, alen, elems, AV.int?, FPost, aresL, ares1, pack, afill, splice, Value.oneCell', Nat.reduceLT, Nat.reduceLeDiff, Nat.reduceEqDiff, Nat.reduceAdd, Nat.reduceMul, Nat.reduceSub, Nat.reduceBEq, Int.reduceLE, Int.reduceLT, Int.reduceToNat, Int.reduceNeg, Int.reduceEq, axt, ftK, ft3, pickP, AScope, AAll, pickQ, ftQ, inHeap, tys]
  by_cases hc : arIs A i = true
  · obtain ⟨h0, h1⟩ := arIs_yes hc
    obtain ⟨y, hy, hy2, hy3⟩ := arIs_get h0 h1
    have hst : arSet A i x = (⟨A.slots.set i.toNat ⟨x, true⟩, A.freed, A.next, A.live⟩, true) := by unfold arSet; rw [if_pos hc]
    have htk : y.tk = true := by rw [← hy2, hc]
    have hg := SL_get hy
    have h2 : 0 ≤ i := by omega
    simp (maxSteps := 400000) (dsimp := false) only [hc, axs, AThen, ABlock, dstsOk, AStep, callsF, AWant, aop, AS.ev, AS.put, upd, AS.bound, abin, aint, aload, astore, cellsAt, AV.cells, alen, elems, AV.int?, FPost, aresL, ares1, pack, afill, splice, Value.oneCell', Nat.reduceLT, Nat.reduceLeDiff, Nat.reduceEqDiff, Nat.reduceAdd, Nat.reduceMul, Nat.reduceSub, Nat.reduceBEq, Int.reduceLE, Int.reduceLT, Int.reduceToNat, Int.reduceNeg, Int.reduceEq, axt, ftK, ft3, pickP, AScope, AAll, pickQ, ftQ, inHeap, tys]
    refine ADraw.planR [] [(0, true), (1, true), (2, true), (3, true), (4, true), (5, true), (6, true), (7, true), (8, true)] [(0, false), (0, false), (0, false), (0, false), (0, false), (0, false), (0, false), (0, false), (0, false)] mixed (by kernel_rfl) (by kernel_rfl) ?_
    simp (maxSteps := 400000) (dsimp := false) only [ha, hs, hc, h1, hg, h2, ne1, ne2, ne3, axs, AThen, ABlock, dstsOk, AStep, callsF, AWant, aop, AS.ev, AS.put, upd, AS.bound, abin, aint, aload, astore, cellsAt, AV.cells, alen, elems, AV.int?, FPost, aresL, ares1, pack, afill, splice, Value.oneCell', Nat.reduceLT, Nat.reduceLeDiff, Nat.reduceEqDiff, Nat.reduceAdd, Nat.reduceMul, Nat.reduceSub, Nat.reduceBEq, Int.reduceLE, Int.reduceLT, Int.reduceToNat, Int.reduceNeg, Int.reduceEq, axt, ftK, ft3, pickP, AScope, AAll, pickQ, ftQ, inHeap, tys]
    rw [hst, htk]
    refine ⟨_, rfl, rfl, ?_⟩
    unfold setH
    rw [← SL_set]
    rfl
  · have hc : arIs A i = false := by simpa using hc
    have hst : arSet A i x = (A, false) := by unfold arSet; rw [if_neg (by rw [hc]; simp)]
    simp (maxSteps := 400000) (dsimp := false) only [ha, hs, hc, ne1, ne2, axs, AThen, ABlock, dstsOk, AStep, callsF, AWant, aop, AS.ev, AS.put, upd, AS.bound, abin, aint, aload, astore, cellsAt, AV.cells, alen, elems, AV.int?, FPost, aresL, ares1, pack, afill, splice, Value.oneCell', Nat.reduceLT, Nat.reduceLeDiff, Nat.reduceEqDiff, Nat.reduceAdd, Nat.reduceMul, Nat.reduceSub, Nat.reduceBEq, Int.reduceLE, Int.reduceLT, Int.reduceToNat, Int.reduceNeg, Int.reduceEq, axt, ftK, ft3, pickP, AScope, AAll, pickQ, ftQ, inHeap, tys]
    rw [hst]
    refine ⟨_, rfl, rfl, ?_⟩
    unfold setH
    exact (upd_self' (by rw [upd_ne _ _ ne2]; exact hs)).symm
end Go.Al
end
section
set_option linter.unusedVariables false
set_option linter.unusedSimpArgs false
set_option maxRecDepth 20000
set_option maxHeartbeats 1600000
namespace Go.Al
open Go.Proofs
/-- What becomes of an arena's objects: those that are not its stay. -/
structure ArTo (H : AH) (n a s : Nat) (fv : AV) (H' : AH) (n' : Nat) (A' : AR) : Prop where
  le : n ≤ n'
  keep : ∀ j, j < n → ¬ ArOwn a s fv j → H' j = H j
  at_ : ∃ s' fv', ArH H' n' a s' fv' A' ∧ ∀ j, ArOwn a s' fv' j → ArOwn a s fv j ∨ n ≤ j
theorem ArTo.same {H : AH} {n a s : Nat} {fv : AV} {A : AR} (h : ArH H n a s fv A) : ArTo H n a s fv H n A :=
  ⟨Nat.le_refl _, fun _ _ _ => rfl, s, fv, h, fun j hj => .inl hj⟩
theorem cArFree {H : AH} {n a s : Nat} {fv : AV} {A : AR} (h : ArH H n a s fv A) (i : Int) (hi : I32ok i) (hl : A.freed.length ≤ 1000000) (hv0 : 0 ≤ A.live) (hv1 : A.live ≤ 1000000000) :
    HCalls Try.prog 59 [.ptr a 4 0 0, .sc (.int .i32 i)] H n fun r H' n' => r = .sc (.bool (arFree A i).2) ∧ ArTo H n a s fv H' n' (arFree A i).1 := by
  have ha := h.ha
  have hs := h.hs
  have la := h.la
  have ls := h.ls
  have hne := h.ne
  have hneq : ¬ a = s ∧ ¬ s = a ∧ ¬ a = n ∧ ¬ n = a ∧ ¬ s = n ∧ ¬ n = s ∧ ¬ a = n + 1 ∧ ¬ n + 1 = a ∧ ¬ s = n + 1 ∧ ¬ n + 1 = s := by and_intros <;> omega
  have w1 : IntKind.i64.wrap (A.live - 1) = A.live - 1 := IntWalk.i64_in _ ⟨by omega, by omega⟩
  refine HCalls.walk Try.func59 rfl rfl Try.ntmps59 Try.results59 (by simp) ?_; simp (maxSteps := 400000) (dsimp := false) only [axs, AThen, ABlock, dstsOk, AStep, callsF, AWant, aop, AS.ev, AS.put, upd, AS.bound, abin, aint, aload, astore, cellsAt, AV.cells, alen, elems, AV.int?, FPost, aresL, ares1, pack, afill, splice, Value.oneCell', Nat.reduceLT, Nat.reduceLeDiff, Nat.reduceEqDiff, Nat.reduceAdd, Nat.reduceMul, Nat.reduceSub, Nat.reduceBEq, Int.reduceLE, Int.reduceLT, Int.reduceToNat, Int.reduceNeg, Int.reduceEq, axt, ftK, ft3, pickP, AScope, AAll, pickQ, ftQ, inHeap, tys]
  refine ACallK.heap _ rfl (cArIs h i hi) ?_; rintro r' H' n' ⟨rfl, eH, en⟩; obtain rfl := eH.symm; obtain rfl := en.symm; clear eH en; simp (maxSteps := 400000) (dsimp := false) only [axs, AThen, ABlock, dstsOk, AStep, callsF, AWant, aop, AS.ev, AS.put, upd, AS.bound, abin, aint, aload, astore, cellsAt, AV.cells, alen, elems, AV.int?, FPost, aresL, ares1, pack, afill, splice, Value.oneCell', Nat.reduceLT, Nat.reduceLeDiff, Nat.reduceEqDiff, Nat.reduceAdd, Nat.reduceMul, Nat.reduceSub, Nat.reduceBEq, Int.reduceLE, Int.reduceLT, Int.reduceToNat, Int.reduceNeg, Int.reduceEq, axt, ftK, ft3, pickP, AScope, AAll, pickQ, ftQ, inHeap, tys]
  by_cases hc : arIs A i = true
  · obtain ⟨h0, h1⟩ := arIs_yes hc
    obtain ⟨y, hy, hy2, hy3⟩ := arIs_get h0 h1
    have hfr : arFree A i = (⟨A.slots.set i.toNat slt0, A.freed ++ [i], A.next, A.live - 1⟩, true) := by unfold arFree; rw [if_pos hc]
    have hg := SL_get hy
    have h2 : 0 ≤ i := by omega
    have hset : (SL A.slots).set i.toNat [.sc (.int .u64 0), .sc (.int .u64 0), .sc (.int .i64 0), .sc (.int .i64 0), .sc (.int .i32 0), .sc (.int .i32 0), .sc (.bool false)] = SL (A.slots.set i.toNat slt0) := SL_set A.slots i.toNat slt0
    rw [hfr]
    have own : ∀ j, j < n → ¬ ArOwn a s fv j → ¬ j = a ∧ ¬ j = s ∧ ¬ j = n ∧ ¬ j = n + 1 := fun j hj ho => ⟨fun e => ho (.inl e), fun e => ho (.inr (.inl e)), by omega, by omega⟩
    have ends : ∀ (m j : Nat), ArOwn a s (.sl (n + 1) 1 0 m) j → ArOwn a s fv j ∨ n ≤ j := by
      intro m j hj
      rcases hj with rfl | rfl | ⟨m', e⟩
      · exact .inl (.inl rfl)
      · exact .inl (.inr (.inl rfl))
      · simp only [AV.sl.injEq] at e
        exact .inr (by omega)
    have ends2 : ∀ (m f m' : Nat), AV.sl (n + 1) 1 0 m = .sl f 1 0 m' → f < n + 1 + 1 := by
      intro m f m' e
      simp only [AV.sl.injEq] at e
      omega
    have hsn := I32_snoc A.freed i
    rcases h.hf with ⟨h7, h8⟩ | ⟨id, h7, h8⟩
    · subst h8
      simp (maxSteps := 400000) (dsimp := false) only [ha, hs, hc, h1, hg, h2, hneq, hset, w1, axs, AThen, ABlock, dstsOk, AStep, callsF, AWant, aop, AS.ev, AS.put, upd, AS.bound, abin, aint, aload, astore, cellsAt, AV.cells, alen, elems, AV.int?, FPost, aresL, ares1, pack, afill, splice, Value.oneCell', Nat.reduceLT, Nat.reduceLeDiff, Nat.reduceEqDiff, Nat.reduceAdd, Nat.reduceMul, Nat.reduceSub, Nat.reduceBEq, Int.reduceLE, Int.reduceLT, Int.reduceToNat, Int.reduceNeg, Int.reduceEq, axt, ftK, ft3, pickP, AScope, AAll, pickQ, ftQ, inHeap, tys]
      refine ⟨_, rfl, rfl, by omega, ?_, s, .sl (n + 1) 1 0 1, ⟨?_, ?_, Live.mk (by rw [hsn, h7]; simp [upd, hneq]) (by rw [hsn, h7]; rfl), by omega, by omega, ends2 1⟩, ends 1⟩
      · intro j hj ho
        have := own j hj ho
        simp [upd, this]
      · simp [upd, hneq]
      · simp [upd, hneq]
    · have hid1 : ¬ id = a := by rintro rfl; rw [ha] at h8; simp at h8
      have hid2 : ¬ id = s := by rintro rfl; rw [hs] at h8; simp at h8
      have hid3 := h.lf _ _ h7
      have hid : ¬ id = a ∧ ¬ a = id ∧ ¬ id = s ∧ ¬ s = id ∧ ¬ id = n ∧ ¬ n = id ∧ ¬ id = n + 1 ∧ ¬ n + 1 = id := by and_intros <;> omega
      have b2 : A.freed.length ≤ 1099511627775 := by omega
      have b3 : (A.freed.length + 1) * 4 ≤ 140737488355328 ↔ True := by simp; omega
      subst h7
      rw [I32_len] at own
      simp only [I32_len] at ends
      rw [I32_len] at ha
      simp (maxSteps := 400000) (dsimp := false) only [ha, hs, hc, h1, hg, h2, hneq, hset, w1, h8, hid, I32_len, b2, b3, axs, AThen, ABlock, dstsOk, AStep, callsF, AWant, aop, AS.ev, AS.put, upd, AS.bound, abin, aint, aload, astore, cellsAt, AV.cells, alen, elems, AV.int?, FPost, aresL, ares1, pack, afill, splice, Value.oneCell', Nat.reduceLT, Nat.reduceLeDiff, Nat.reduceEqDiff, Nat.reduceAdd, Nat.reduceMul, Nat.reduceSub, Nat.reduceBEq, Int.reduceLE, Int.reduceLT, Int.reduceToNat, Int.reduceNeg, Int.reduceEq, axt, ftK, ft3, pickP, AScope, AAll, pickQ, ftQ, inHeap, tys]
      refine ⟨_, rfl, rfl, by omega, ?_, s, .sl (n + 1) 1 0 (A.freed.length + 1), ⟨?_, ?_, Live.mk (by rw [hsn]; simp [upd, hneq]) (by rw [hsn]; simp [I32_len]), by omega, by omega, ends2 _⟩, ends _⟩
      · intro j hj ho
        have h9 := own j hj ho
        have h10 : ¬ j = id := fun e => ho (.inr (.inr ⟨_, by rw [e]⟩))
        simp [upd, h9, h10]
      · simp [upd, hneq]
      · simp [upd, hneq, hid]
  · have hc : arIs A i = false := by simpa using hc
    have hst : arFree A i = (A, false) := by unfold arFree; rw [if_neg (by rw [hc]; simp)]
    simp (maxSteps := 400000) (dsimp := false) only [hc, axs, AThen, ABlock, dstsOk, AStep, callsF, AWant, aop, AS.ev, AS.put, upd, AS.bound, abin, aint, aload, astore, cellsAt, AV.cells, alen, elems, AV.int?, FPost, aresL, ares1, pack, afill, splice, Value.oneCell', Nat.reduceLT, Nat.reduceLeDiff, Nat.reduceEqDiff, Nat.reduceAdd, Nat.reduceMul, Nat.reduceSub, Nat.reduceBEq, Int.reduceLE, Int.reduceLT, Int.reduceToNat, Int.reduceNeg, Int.reduceEq, axt, ftK, ft3, pickP, AScope, AAll, pickQ, ftQ, inHeap, tys]
    rw [hst]
    exact ⟨_, rfl, rfl, ArTo.same h⟩
end Go.Al
end
section
set_option linter.unusedVariables false
set_option linter.unusedSimpArgs false
set_option maxRecDepth 20000
set_option maxHeartbeats 1600000
namespace Go.Al
open Go.Proofs
def arRow (s : Nat) (fv : AV) (m : Nat) (next live : Int) : List AV := [.sl s 7 0 m, fv, .sc (.int .i64 next), .sc (.int .i64 live)]
theorem cArGrow {H : AH} {n a s : Nat} {fv : AV} {A : AR} (h : ArH H n a s fv A) (hl : A.slots.length ≤ 2000000) :
    HCalls Try.prog 91 [.ptr a 4 0 0] H n fun r H' n' => r = .tup [] ∧ H' = upd (upd H n (some (.obj 115 7 (SL (A.slots ++ List.replicate A.slots.length slt0)) false))) a (some (.obj 100 4 [[.sl n 7 0 (2 * A.slots.length), fv, .sc (.int .i64 A.next), .sc (.int .i64 A.live)]] false)) ∧ n' = n + 1 := by
  have ha := h.ha
  have hs := h.hs
  have la := h.la
  have ls := h.ls
  have hneq : ¬ a = n ∧ ¬ n = a ∧ ¬ s = n ∧ ¬ n = s := by and_intros <;> omega
  have w1 : IntKind.i64.wrap (2 * (A.slots.length : Int)) = ((2 * A.slots.length : Nat) : Int) := by rw [wrap_in (by omega) (by omega)]; omega
  have b1 : (0 : Int) ≤ ((2 * A.slots.length : Nat) : Int) := by omega
  have b2 : ((2 * A.slots.length : Nat) : Int) * 48 ≤ 140737488355328 := by omega
  have b3 : ((2 * A.slots.length : Nat) : Int) ≤ 1099511627776 := by omega
  have hrep := SL_rep (2 * A.slots.length)
  refine HCalls.walk Try.func91 rfl rfl Try.ntmps91 Try.results91 (by simp) ?_; simp (maxSteps := 400000) (dsimp := false) only [ha, w1, b1, b2, b3, hneq, axs, AThen, ABlock, dstsOk, AStep, callsF, AWant, aop, AS.ev, AS.put, upd, AS.bound, abin, aint, aload, astore, cellsAt, AV.cells, alen, elems, AV.int?, FPost, aresL, ares1, pack, afill, splice, Value.oneCell', Nat.reduceLT, Nat.reduceLeDiff, Nat.reduceEqDiff, Nat.reduceAdd, Nat.reduceMul, Nat.reduceSub, Nat.reduceBEq, Int.reduceLE, Int.reduceLT, Int.reduceToNat, Int.reduceNeg, Int.reduceEq, axt, ftK, ft3, pickP, AScope, AAll, pickQ, ftQ, inHeap, tys]
  refine AStepX.copy (L := A.slots.length) (ys := SL A.slots) rfl rfl rfl rfl sl98 ty115 rfl (by decide) (.inl rfl) (upd_same _ _ _) (by simp) ?_ ?_
  · show srcFirst (upd H n _) 7 _ (.sl s 7 0 A.slots.length) = _
    simp only [srcFirst, upd_ne H _ (show s ≠ n by omega), hs]
    have h2 : min A.slots.length (2 * A.slots.length) = A.slots.length := by omega
    simp [SL_len, h2]
    rw [← SL_len A.slots, List.take_length]
  simp (maxSteps := 400000) (dsimp := false) only [ha, hneq, upd_upd, axs, AThen, ABlock, dstsOk, AStep, callsF, AWant, aop, AS.ev, AS.put, upd, AS.bound, abin, aint, aload, astore, cellsAt, AV.cells, alen, elems, AV.int?, FPost, aresL, ares1, pack, afill, splice, Value.oneCell', Nat.reduceLT, Nat.reduceLeDiff, Nat.reduceEqDiff, Nat.reduceAdd, Nat.reduceMul, Nat.reduceSub, Nat.reduceBEq, Int.reduceLE, Int.reduceLT, Int.reduceToNat, Int.reduceNeg, Int.reduceEq, axt, ftK, ft3, pickP, AScope, AAll, pickQ, ftQ, inHeap, tys]
  refine ⟨_, rfl, rfl, ?_⟩
  have e : over (List.replicate (2 * A.slots.length) [.sc (.int .u64 0), .sc (.int .u64 0), .sc (.int .i64 0), .sc (.int .i64 0), .sc (.int .i32 0), .sc (.int .i32 0), .sc (.bool false)]) 0 (SL A.slots) = SL (A.slots ++ List.replicate A.slots.length slt0) := by
    rw [hrep]
    unfold over
    rw [SL_append, List.take_zero, List.nil_append, SL_drop, SL_len]
    congr 2
    rw [List.drop_replicate]
    congr 1
    omega
  rw [e]
theorem ArH.grown {H : AH} {n a s : Nat} {fv : AV} {A : AR} (h : ArH H n a s fv A) : ArH (upd (upd H n (some (.obj 115 7 (SL (A.slots ++ List.replicate A.slots.length slt0)) false))) a (some (.obj 100 4 [[.sl n 7 0 (2 * A.slots.length), fv, .sc (.int .i64 A.next), .sc (.int .i64 A.live)]] false))) (n + 1) a n fv ⟨A.slots ++ List.replicate A.slots.length slt0, A.freed, A.next, A.live⟩ := by
  obtain ⟨ha, hs, hff, la, ls, lf⟩ := h
  refine ⟨?_, by rw [upd_ne _ _ (by omega), upd_same], ?_, by omega, by omega, fun f m e => by have := lf f m e; omega⟩
  · rw [upd_same]
    simp only [List.length_append, List.length_replicate]
    rw [show A.slots.length + A.slots.length = 2 * A.slots.length by omega]
  · rcases hff with ⟨h1, h2⟩ | ⟨id, h1, h2⟩
    · exact .inl ⟨h1, h2⟩
    · refine .inr ⟨id, h1, ?_⟩
      have : id ≠ a := by rintro rfl; rw [ha] at h2; simp at h2
      have h3 := lf _ _ h1
      rw [upd_ne _ _ this, upd_ne _ _ (by omega)]
      exact h2
theorem cArNew (room : Int) (H : AH) (n : Nat) :
    HCalls Try.prog 32 [.sc (.int .i64 room)] H n fun r H' n' => r = .ptr (n + 1) 4 0 0 ∧ H' = upd (upd H n (some (.obj 115 7 (SL (arNew room).slots) false))) (n + 1) (some (.obj 100 4 [[.sl n 7 0 (arNew room).slots.length, .sc (.slice none 0 0), .sc (.int .i64 1), .sc (.int .i64 0)]] false)) ∧ n' = n + 1 + 1 := by
  have hq : 1 ≤ (if 1048576 < (if 1 > room then 1 else room) then (1048576 : Int) else (if 1 > room then 1 else room)) ∧ (if 1048576 < (if 1 > room then 1 else room) then (1048576 : Int) else (if 1 > room then 1 else room)) ≤ 1048576 := by
    by_cases h : 1 > room <;> simp [h] <;> (try split) <;> omega
  unfold arNew
  generalize hqe : (if 1048576 < (if 1 > room then 1 else room) then (1048576 : Int) else (if 1 > room then 1 else room)) = q at *
  obtain ⟨m, hm⟩ : ∃ m : Nat, 1 + q = (m : Int) := ⟨(1 + q).toNat, by omega⟩
  have w1 : IntKind.i64.wrap (1 + q) = (m : Int) := by rw [wrap_in (by omega) (by omega)]; exact hm
  have b1 : (0 : Int) ≤ (m : Int) := by omega
  have b2 : (m : Int) * 48 ≤ 140737488355328 := by omega
  have b3 : (m : Int) ≤ 1099511627776 := by omega
  have hrep := SL_rep m
  refine HCalls.walk Try.func32 rfl rfl Try.ntmps32 Try.results32 (by simp) ?_; simp (maxSteps := 400000) (dsimp := false) only [hqe, w1, b1, b2, b3, hrep, axs, AThen, ABlock, dstsOk, AStep, callsF, AWant, aop, AS.ev, AS.put, upd, AS.bound, abin, aint, aload, astore, cellsAt, AV.cells, alen, elems, AV.int?, FPost, aresL, ares1, pack, afill, splice, Value.oneCell', Nat.reduceLT, Nat.reduceLeDiff, Nat.reduceEqDiff, Nat.reduceAdd, Nat.reduceMul, Nat.reduceSub, Nat.reduceBEq, Int.reduceLE, Int.reduceLT, Int.reduceToNat, Int.reduceNeg, Int.reduceEq, axt, ftK, ft3, pickP, AScope, AAll, pickQ, ftQ, inHeap, tys]
  refine ⟨_, rfl, rfl, ?_⟩
  rw [hm]
  simp
theorem arNew_H (room : Int) (H : AH) (n : Nat) : ArH (upd (upd H n (some (.obj 115 7 (SL (arNew room).slots) false))) (n + 1) (some (.obj 100 4 [[.sl n 7 0 (arNew room).slots.length, .sc (.slice none 0 0), .sc (.int .i64 1), .sc (.int .i64 0)]] false))) (n + 1 + 1) (n + 1) n (.sc (.slice none 0 0)) (arNew room) :=
  ⟨by rw [upd_same]; rfl, by rw [upd_ne _ _ (by omega), upd_same], .inl ⟨rfl, rfl⟩, by omega, by omega, fun f m e => by cases e⟩
end Go.Al
end
section
set_option linter.unusedVariables false
set_option linter.unusedSimpArgs false
set_option maxRecDepth 20000
set_option maxHeartbeats 3200000
namespace Go.Al
open Go.Proofs
theorem cArAlloc {H : AH} {n a s : Nat} {fv : AV} {A : AR} (h : ArH H n a s fv A) (ok : ArOk A) (hl : A.slots.length ≤ 1000000) :
    HCalls Try.prog 73 [.ptr a 4 0 0] H n fun r H' n' => r = .sc (.int .i32 (arAlloc A).2) ∧ ArTo H n a s fv H' n' (arAlloc A).1 := by
  have ha := h.ha
  have hs := h.hs
  have la := h.la
  have ls := h.ls
  have hne := h.ne
  obtain ⟨n0, n1, fr, fl, l0, l1⟩ := ok
  have hneq : ¬ a = s ∧ ¬ s = a ∧ ¬ a = n ∧ ¬ n = a ∧ ¬ s = n ∧ ¬ n = s := by and_intros <;> omega
  have w1 : IntKind.i64.wrap (A.live + 1) = A.live + 1 := wrap_in (by omega) (by omega)
  have w2 : IntKind.i32.wrap A.next = A.next := IntWalk.i32_in _ ⟨by omega, by omega⟩
  have w3 : IntKind.i64.wrap (A.next + 1) = A.next + 1 := wrap_in (by omega) (by omega)
  have hset : ∀ (l : List Slt) (i : Int), (SL l).set i.toNat [.sc (.int .u64 0), .sc (.int .u64 0), .sc (.int .i64 0), .sc (.int .i64 0), .sc (.int .i32 0), .sc (.int .i32 0), .sc (.bool true)] = SL (l.set i.toNat ⟨nd0, true⟩) := fun l i => SL_set l i.toNat ⟨nd0, true⟩
  have own : ∀ j, j < n → ¬ ArOwn a s fv j → ¬ j = a ∧ ¬ j = s ∧ ¬ j = n := fun j hj ho => ⟨fun e => ho (.inl e), fun e => ho (.inr (.inl e)), by omega⟩
  by_cases hf : A.freed = []
  · -- none is free
    have hal : arAlloc A = if A.next = A.slots.length then (⟨(A.slots ++ List.replicate A.slots.length slt0).set A.next.toNat ⟨nd0, true⟩, [], A.next + 1, A.live + 1⟩, A.next) else (⟨A.slots.set A.next.toNat ⟨nd0, true⟩, [], A.next + 1, A.live + 1⟩, A.next) := by
      unfold arAlloc
      rw [if_neg (by simp [hf])]
    have wneg : IntKind.i64.wrap (0 - 1) = -1 := by decide
    have hneg : ¬ (-1 : Int) ≥ 0 := by omega
    have hnil : I32 A.freed = [] := by rw [hf]; rfl
    have hf0 := h.hf
    have hgr := h.grown
    have hlen : ∀ (f m : Nat), fv = .sl f 1 0 m → f < n := h.lf
    have two : (fv = .sc (.slice none 0 0)) ∨ ∃ id, fv = .sl id 1 0 0 ∧ H id = some (.obj 21 1 [] false) := by
      rw [hnil] at hf0
      rcases hf0 with ⟨_, h2⟩ | ⟨id, h1, h2⟩
      · exact .inl h2
      · exact .inr ⟨id, h1, h2⟩
    have live2 : ∀ H2 : AH, (∀ f m, fv = .sl f 1 0 m → H2 f = H f) → Live 21 1 H2 (I32 []) fv := by
      intro H2 hk
      rcases two with h2 | ⟨id, h1, h2⟩
      · exact .inl ⟨rfl, h2⟩
      · exact .inr ⟨id, h1, by rw [hk _ _ h1]; exact h2⟩
    have fne : ∀ f m, fv = .sl f 1 0 m → ¬ f = a ∧ ¬ f = s ∧ ¬ f = n := by
      intro f m e
      refine ⟨?_, ?_, by have := hlen f m e; omega⟩
      · rintro rfl
        rcases two with h2 | ⟨id, h1, h2⟩
        · rw [h2] at e; cases e
        · rw [h1] at e; simp only [AV.sl.injEq] at e; rw [e.1, ha] at h2; simp at h2
      · rintro rfl
        rcases two with h2 | ⟨id, h1, h2⟩
        · rw [h2] at e; cases e
        · rw [h1] at e; simp only [AV.sl.injEq] at e; rw [e.1, hs] at h2; simp at h2
    have g0 : (0 : Int) ≤ A.next := by omega
    have head : ∀ Q : AS → Prop, True := fun _ => trivial
    rw [hal]
    by_cases hq : A.next = (A.slots.length : Int)
    · have hqt : (A.next = (A.slots.length : Int)) = True := eq_true hq
      have hget : (A.slots ++ List.replicate A.slots.length slt0)[A.next.toNat]? = some slt0 := by
        rw [List.getElem?_append_right (by omega), List.getElem?_replicate, if_pos (by omega)]
      have hg := SL_get hget
      have g1 : A.next < ((2 * A.slots.length : Nat) : Int) := by omega
      rw [if_pos hq]
      rcases two with h2 | ⟨id, h1, h2⟩
      · subst h2
        refine HCalls.walk Try.func73 rfl rfl Try.ntmps73 Try.results73 (by simp) ?_; simp (maxSteps := 400000) (dsimp := false) only [ha, w2, wneg, hneg, axs, AThen, ABlock, dstsOk, AStep, callsF, AWant, aop, AS.ev, AS.put, upd, AS.bound, abin, aint, aload, astore, cellsAt, AV.cells, alen, elems, AV.int?, FPost, aresL, ares1, pack, afill, splice, Value.oneCell', Nat.reduceLT, Nat.reduceLeDiff, Nat.reduceEqDiff, Nat.reduceAdd, Nat.reduceMul, Nat.reduceSub, Nat.reduceBEq, Int.reduceLE, Int.reduceLT, Int.reduceToNat, Int.reduceNeg, Int.reduceEq, axt, ftK, ft3, pickP, AScope, AAll, pickQ, ftQ, inHeap, tys]
        refine ADraw.planR [] [(0, true), (1, true), (2, true), (3, true), (4, true), (5, true), (6, true), (7, true), (8, true), (9, true)] [(0, false), (0, false), (0, false), (0, false), (0, false), (0, false), (0, false), (0, false), (0, false), (0, false)] mixed (by kernel_rfl) (by kernel_rfl) ?_
        simp (maxSteps := 400000) (dsimp := false) only [ha, hqt, axs, AThen, ABlock, dstsOk, AStep, callsF, AWant, aop, AS.ev, AS.put, upd, AS.bound, abin, aint, aload, astore, cellsAt, AV.cells, alen, elems, AV.int?, FPost, aresL, ares1, pack, afill, splice, Value.oneCell', Nat.reduceLT, Nat.reduceLeDiff, Nat.reduceEqDiff, Nat.reduceAdd, Nat.reduceMul, Nat.reduceSub, Nat.reduceBEq, Int.reduceLE, Int.reduceLT, Int.reduceToNat, Int.reduceNeg, Int.reduceEq, axt, ftK, ft3, pickP, AScope, AAll, pickQ, ftQ, inHeap, tys]
        refine ACallK.heap _ rfl (cArGrow h (by omega)) ?_; rintro r' H' n' ⟨rfl, eH, en⟩; obtain rfl := eH.symm; obtain rfl := en.symm; clear eH en; simp (maxSteps := 400000) (dsimp := false) only [hneq, w3, g0, g1, hg, hset, w1, upd_upd, axs, AThen, ABlock, dstsOk, AStep, callsF, AWant, aop, AS.ev, AS.put, upd, AS.bound, abin, aint, aload, astore, cellsAt, AV.cells, alen, elems, AV.int?, FPost, aresL, ares1, pack, afill, splice, Value.oneCell', Nat.reduceLT, Nat.reduceLeDiff, Nat.reduceEqDiff, Nat.reduceAdd, Nat.reduceMul, Nat.reduceSub, Nat.reduceBEq, Int.reduceLE, Int.reduceLT, Int.reduceToNat, Int.reduceNeg, Int.reduceEq, axt, ftK, ft3, pickP, AScope, AAll, pickQ, ftQ, inHeap, tys]
        refine ⟨_, rfl, rfl, by omega, ?_, n, _, ⟨?_, ?_, live2 _ (fun f m e => ?_), by omega, by omega, fun f m e => by have := hlen f m e; omega⟩, ?_⟩
        · intro j hj ho
          have := own j hj ho
          simp [upd, this]
        · simp [upd, hneq]
          try omega
        · simp [upd, hneq]
        · have := fne f m e
          simp [upd, this]
        · intro j hj
          rcases hj with rfl | rfl | hj
          · exact .inl (.inl rfl)
          · exact .inr (Nat.le_refl _)
          · exact .inl (.inr (.inr hj))
      · subst h1
        refine HCalls.walk Try.func73 rfl rfl Try.ntmps73 Try.results73 (by simp) ?_; simp (maxSteps := 400000) (dsimp := false) only [ha, w2, wneg, hneg, axs, AThen, ABlock, dstsOk, AStep, callsF, AWant, aop, AS.ev, AS.put, upd, AS.bound, abin, aint, aload, astore, cellsAt, AV.cells, alen, elems, AV.int?, FPost, aresL, ares1, pack, afill, splice, Value.oneCell', Nat.reduceLT, Nat.reduceLeDiff, Nat.reduceEqDiff, Nat.reduceAdd, Nat.reduceMul, Nat.reduceSub, Nat.reduceBEq, Int.reduceLE, Int.reduceLT, Int.reduceToNat, Int.reduceNeg, Int.reduceEq, axt, ftK, ft3, pickP, AScope, AAll, pickQ, ftQ, inHeap, tys]
        refine ADraw.planR [] [(0, true), (1, true), (2, true), (3, true), (4, true), (5, true), (6, true), (7, true), (8, true), (9, true)] [(0, false), (0, false), (0, false), (0, false), (0, false), (0, false), (0, false), (0, false), (0, false), (0, false)] mixed (by kernel_rfl) (by kernel_rfl) ?_
        simp (maxSteps := 400000) (dsimp := false) only [ha, hqt, axs, AThen, ABlock, dstsOk, AStep, callsF, AWant, aop, AS.ev, AS.put, upd, AS.bound, abin, aint, aload, astore, cellsAt, AV.cells, alen, elems, AV.int?, FPost, aresL, ares1, pack, afill, splice, Value.oneCell', Nat.reduceLT, Nat.reduceLeDiff, Nat.reduceEqDiff, Nat.reduceAdd, Nat.reduceMul, Nat.reduceSub, Nat.reduceBEq, Int.reduceLE, Int.reduceLT, Int.reduceToNat, Int.reduceNeg, Int.reduceEq, axt, ftK, ft3, pickP, AScope, AAll, pickQ, ftQ, inHeap, tys]
        refine ACallK.heap _ rfl (cArGrow h (by omega)) ?_; rintro r' H' n' ⟨rfl, eH, en⟩; obtain rfl := eH.symm; obtain rfl := en.symm; clear eH en; simp (maxSteps := 400000) (dsimp := false) only [hneq, w3, g0, g1, hg, hset, w1, upd_upd, axs, AThen, ABlock, dstsOk, AStep, callsF, AWant, aop, AS.ev, AS.put, upd, AS.bound, abin, aint, aload, astore, cellsAt, AV.cells, alen, elems, AV.int?, FPost, aresL, ares1, pack, afill, splice, Value.oneCell', Nat.reduceLT, Nat.reduceLeDiff, Nat.reduceEqDiff, Nat.reduceAdd, Nat.reduceMul, Nat.reduceSub, Nat.reduceBEq, Int.reduceLE, Int.reduceLT, Int.reduceToNat, Int.reduceNeg, Int.reduceEq, axt, ftK, ft3, pickP, AScope, AAll, pickQ, ftQ, inHeap, tys]
        refine ⟨_, rfl, rfl, by omega, ?_, n, _, ⟨?_, ?_, live2 _ (fun f m e => ?_), by omega, by omega, fun f m e => by have := hlen f m e; omega⟩, ?_⟩
        · intro j hj ho
          have := own j hj ho
          simp [upd, this]
        · simp [upd, hneq]
          try omega
        · simp [upd, hneq]
        · have := fne f m e
          simp [upd, this]
        · intro j hj
          rcases hj with rfl | rfl | hj
          · exact .inl (.inl rfl)
          · exact .inr (Nat.le_refl _)
          · exact .inl (.inr (.inr hj))
    · rw [if_neg hq]
      have hlt : A.next.toNat < A.slots.length := by omega
      have hget : A.slots[A.next.toNat]? = some A.slots[A.next.toNat] := List.getElem?_eq_getElem hlt
      have hg := SL_get hget
      have g1 : A.next < (A.slots.length : Int) := by omega
      rcases two with h2 | ⟨id, h1, h2⟩
      · subst h2
        refine HCalls.walk Try.func73 rfl rfl Try.ntmps73 Try.results73 (by simp) ?_; simp (maxSteps := 400000) (dsimp := false) only [ha, w2, wneg, hneg, axs, AThen, ABlock, dstsOk, AStep, callsF, AWant, aop, AS.ev, AS.put, upd, AS.bound, abin, aint, aload, astore, cellsAt, AV.cells, alen, elems, AV.int?, FPost, aresL, ares1, pack, afill, splice, Value.oneCell', Nat.reduceLT, Nat.reduceLeDiff, Nat.reduceEqDiff, Nat.reduceAdd, Nat.reduceMul, Nat.reduceSub, Nat.reduceBEq, Int.reduceLE, Int.reduceLT, Int.reduceToNat, Int.reduceNeg, Int.reduceEq, axt, ftK, ft3, pickP, AScope, AAll, pickQ, ftQ, inHeap, tys]
        refine ADraw.planR [] [(0, true), (1, true), (2, true), (3, true), (4, true), (5, true), (6, true), (7, true), (8, true), (9, true)] [(0, false), (0, false), (0, false), (0, false), (0, false), (0, false), (0, false), (0, false), (0, false), (0, false)] mixed (by kernel_rfl) (by kernel_rfl) ?_
        simp (maxSteps := 400000) (dsimp := false) only [ha, hs, hq, hneq, w3, g0, g1, hg, hset, w1, upd_upd, axs, AThen, ABlock, dstsOk, AStep, callsF, AWant, aop, AS.ev, AS.put, upd, AS.bound, abin, aint, aload, astore, cellsAt, AV.cells, alen, elems, AV.int?, FPost, aresL, ares1, pack, afill, splice, Value.oneCell', Nat.reduceLT, Nat.reduceLeDiff, Nat.reduceEqDiff, Nat.reduceAdd, Nat.reduceMul, Nat.reduceSub, Nat.reduceBEq, Int.reduceLE, Int.reduceLT, Int.reduceToNat, Int.reduceNeg, Int.reduceEq, axt, ftK, ft3, pickP, AScope, AAll, pickQ, ftQ, inHeap, tys]
        refine ⟨_, rfl, rfl, by omega, ?_, s, _, ⟨?_, ?_, live2 _ (fun f m e => ?_), by omega, by omega, fun f m e => by have := hlen f m e; omega⟩, ?_⟩
        · intro j hj ho
          have := own j hj ho
          simp [upd, this]
        · simp [upd, hneq]
          try omega
        · simp [upd, hneq]
        · have := fne f m e
          simp [upd, this]
        · intro j hj
          rcases hj with rfl | rfl | hj
          · exact .inl (.inl rfl)
          · exact .inl (.inr (.inl rfl))
          · exact .inl (.inr (.inr hj))
      · subst h1
        refine HCalls.walk Try.func73 rfl rfl Try.ntmps73 Try.results73 (by simp) ?_; simp (maxSteps := 400000) (dsimp := false) only [ha, w2, wneg, hneg, axs, AThen, ABlock, dstsOk, AStep, callsF, AWant, aop, AS.ev, AS.put, upd, AS.bound, abin, aint, aload, astore, cellsAt, AV.cells, alen, elems, AV.int?, FPost, aresL, ares1, pack, afill, splice, Value.oneCell', Nat.reduceLT, Nat.reduceLeDiff, Nat.reduceEqDiff, Nat.reduceAdd, Nat.reduceMul, Nat.reduceSub, Nat.reduceBEq, Int.reduceLE, Int.reduceLT, Int.reduceToNat, Int.reduceNeg, Int.reduceEq, axt, ftK, ft3, pickP, AScope, AAll, pickQ, ftQ, inHeap, tys]
        refine ADraw.planR [] [(0, true), (1, true), (2, true), (3, true), (4, true), (5, true), (6, true), (7, true), (8, true), (9, true)] [(0, false), (0, false), (0, false), (0, false), (0, false), (0, false), (0, false), (0, false), (0, false), (0, false)] mixed (by kernel_rfl) (by kernel_rfl) ?_
        simp (maxSteps := 400000) (dsimp := false) only [ha, hs, hq, hneq, w3, g0, g1, hg, hset, w1, upd_upd, axs, AThen, ABlock, dstsOk, AStep, callsF, AWant, aop, AS.ev, AS.put, upd, AS.bound, abin, aint, aload, astore, cellsAt, AV.cells, alen, elems, AV.int?, FPost, aresL, ares1, pack, afill, splice, Value.oneCell', Nat.reduceLT, Nat.reduceLeDiff, Nat.reduceEqDiff, Nat.reduceAdd, Nat.reduceMul, Nat.reduceSub, Nat.reduceBEq, Int.reduceLE, Int.reduceLT, Int.reduceToNat, Int.reduceNeg, Int.reduceEq, axt, ftK, ft3, pickP, AScope, AAll, pickQ, ftQ, inHeap, tys]
        refine ⟨_, rfl, rfl, by omega, ?_, s, _, ⟨?_, ?_, live2 _ (fun f m e => ?_), by omega, by omega, fun f m e => by have := hlen f m e; omega⟩, ?_⟩
        · intro j hj ho
          have := own j hj ho
          simp [upd, this]
        · simp [upd, hneq]
          try omega
        · simp [upd, hneq]
        · have := fne f m e
          simp [upd, this]
        · intro j hj
          rcases hj with rfl | rfl | hj
          · exact .inl (.inl rfl)
          · exact .inl (.inr (.inl rfl))
          · exact .inl (.inr (.inr hj))
  · -- the last one that was freed
    have hal : arAlloc A = (⟨A.slots.set (lastI A.freed).toNat ⟨nd0, true⟩, A.freed.take (A.freed.length - 1), A.next, A.live + 1⟩, lastI A.freed) := by
      unfold arAlloc
      rw [if_pos hf]
    rw [hal]
    have hfl := List.length_pos_iff.2 hf
    rcases h.hf with ⟨h7, h8⟩ | ⟨id, h7, h8⟩
    · exfalso
      apply hf
      have := congrArg List.length h7
      rw [I32_len] at this
      exact List.length_eq_zero_iff.1 this
    · have hid1 : ¬ id = a := by rintro rfl; rw [ha] at h8; simp at h8
      have hid2 : ¬ id = s := by rintro rfl; rw [hs] at h8; simp at h8
      have hid3 := h.lf _ _ h7
      have hid : ¬ id = a ∧ ¬ a = id ∧ ¬ id = s ∧ ¬ s = id := by and_intros <;> omega
      subst h7
      rw [I32_len] at ha own
      have hm := List.mem_of_getElem? (lastI_get hf)
      obtain ⟨p0, p1⟩ := fr _ hm
      have hlt : (lastI A.freed).toNat < A.slots.length := by omega
      have hg := SL_get (List.getElem?_eq_getElem hlt)
      have hgi := I32_get (lastI_get hf)
      have v1 : IntKind.i64.wrap ((A.freed.length : Int) - 1) = ((A.freed.length - 1 : Nat) : Int) := by rw [wrap_in (by omega) (by omega)]; omega
      have v2 : ((A.freed.length - 1 : Nat) : Int) ≥ 0 := by omega
      have v3 : (0 : Int) ≤ ((A.freed.length - 1 : Nat) : Int) := by omega
      have v4 : ((A.freed.length - 1 : Nat) : Int) < (A.freed.length : Int) := by omega
      have q0 : 0 ≤ lastI A.freed := by omega
      refine HCalls.walk Try.func73 rfl rfl Try.ntmps73 Try.results73 (by simp) ?_; simp (maxSteps := 400000) (dsimp := false) only [ha, w2, v1, v2, v3, v4, h8, hgi, axs, AThen, ABlock, dstsOk, AStep, callsF, AWant, aop, AS.ev, AS.put, upd, AS.bound, abin, aint, aload, astore, cellsAt, AV.cells, alen, elems, AV.int?, FPost, aresL, ares1, pack, afill, splice, Value.oneCell', Nat.reduceLT, Nat.reduceLeDiff, Nat.reduceEqDiff, Nat.reduceAdd, Nat.reduceMul, Nat.reduceSub, Nat.reduceBEq, Int.reduceLE, Int.reduceLT, Int.reduceToNat, Int.reduceNeg, Int.reduceEq, axt, ftK, ft3, pickP, AScope, AAll, pickQ, ftQ, inHeap, tys]
      refine AStepX.shrink (k := A.freed.length - 1) h8 ?_
      refine AStepX.slice3 rfl sl84 ty21 rfl rfl rfl rfl v3 (by omega) ?_
      simp (maxSteps := 400000) (dsimp := false) only [ha, hs, hneq, hid, w1, p1, q0, hg, hset, axs, AThen, ABlock, dstsOk, AStep, callsF, AWant, aop, AS.ev, AS.put, upd, AS.bound, abin, aint, aload, astore, cellsAt, AV.cells, alen, elems, AV.int?, FPost, aresL, ares1, pack, afill, splice, Value.oneCell', Nat.reduceLT, Nat.reduceLeDiff, Nat.reduceEqDiff, Nat.reduceAdd, Nat.reduceMul, Nat.reduceSub, Nat.reduceBEq, Int.reduceLE, Int.reduceLT, Int.reduceToNat, Int.reduceNeg, Int.reduceEq, axt, ftK, ft3, pickP, AScope, AAll, pickQ, ftQ, inHeap, tys]
      refine ⟨_, rfl, rfl, by omega, ?_, s, .sl id 1 0 (A.freed.length - 1), ⟨?_, ?_, Live.mk (te := 21) ?_ ?_, by omega, by omega, fun f m e => ?_⟩, ?_⟩
      · intro j hj ho
        rw [I32_len] at ho
        have h9 := own j hj ho
        have h10 : ¬ j = id := fun e => ho (.inr (.inr ⟨_, by rw [e]⟩))
        simp [upd, h9, h10]
      · simp [upd, hneq]
      · simp [upd, hneq]
      · simp [upd, hid, I32_take]
      · rw [I32_len]; simp
      · simp only [AV.sl.injEq] at e
        omega
      · intro j hj
        rcases hj with rfl | rfl | ⟨m, e⟩
        · exact .inl (.inl rfl)
        · exact .inl (.inr (.inl rfl))
        · simp only [AV.sl.injEq] at e
          obtain ⟨rfl, _⟩ := e
          exact .inl (.inr (.inr ⟨_, rfl⟩))
end Go.Al
end
section
set_option linter.unusedVariables false
set_option linter.unusedSimpArgs false
set_option maxRecDepth 20000
set_option maxHeartbeats 1600000
-- axs, AThen, ABlock, dstsOk, AStep, callsF, AWant, aop, AS.ev, AS.put, upd, AS.bound, abin, aint, aload, astore, cellsAt, AV.cells, alen, elems, AV.int?, FPost, aresL, ares1, pack, afill, splice, Value.oneCell', Nat.reduceLT, Nat.reduceLeDiff, Nat.reduceEqDiff, Nat.reduceAdd, Nat.reduceMul, Nat.reduceSub, Nat.reduceBEq, Int.reduceLE, Int.reduceLT, Int.reduceToNat, Int.reduceNeg, Int.reduceEq, axt, ftK, ft3, pickP, AScope, AAll, pickQ, ftQ, inHeap, RV, Nd.cells, tys: RV, Nd.cells
-- NOIDS: noIdsE_I32, noIdsE_ND
-- LENS: I32_len, ND_len
namespace Go.Al
open Go.Proofs
def ND (l : List Nd) : List (List AV) := l.map Nd.cells
theorem ND_len (l : List Nd) : (ND l).length = l.length := by simp [ND]
theorem ND_get {l : List Nd} {p : Nat} {x : Nd} (h : l[p]? = some x) : (ND l)[p]? = some [.sc (.int .u64 x.key), .sc (.int .u64 x.val), .sc (.int .i64 x.flag), .sc (.int .i64 x.tag), .sc (.int .i32 x.prev), .sc (.int .i32 x.next)] := by simp [ND, h, Nd.cells]
theorem ND_set (l : List Nd) (p : Nat) (x : Nd) : (ND l).set p [.sc (.int .u64 x.key), .sc (.int .u64 x.val), .sc (.int .i64 x.flag), .sc (.int .i64 x.tag), .sc (.int .i32 x.prev), .sc (.int .i32 x.next)] = ND (l.set p x) := by simp [ND, List.map_set, Nd.cells]
theorem ND_append (a b : List Nd) : ND (a ++ b) = ND a ++ ND b := by simp [ND]
theorem noIdsE_ND (l : List Nd) : noIdsE (ND l) = true := noIdsE_map _ (fun x => by simp [Nd.cells, noIdsL, noIds]) l
/-- The reference's arena. -/
def RV (R : RA) : AV := .agg [.sc (.int .i64 R.len), .sc (.int .i64 R.ever), .lst 1 (I32 R.freed), .lst 6 (ND R.nodes)]
end Go.Al
end
section
set_option linter.unusedVariables false
set_option linter.unusedSimpArgs false
set_option maxRecDepth 20000
set_option maxHeartbeats 1600000
-- axs, AThen, ABlock, dstsOk, AStep, callsF, AWant, aop, AS.ev, AS.put, upd, AS.bound, abin, aint, aload, astore, cellsAt, AV.cells, alen, elems, AV.int?, FPost, aresL, ares1, pack, afill, splice, Value.oneCell', Nat.reduceLT, Nat.reduceLeDiff, Nat.reduceEqDiff, Nat.reduceAdd, Nat.reduceMul, Nat.reduceSub, Nat.reduceBEq, Int.reduceLE, Int.reduceLT, Int.reduceToNat, Int.reduceNeg, Int.reduceEq, axt, ftK, ft3, pickP, AScope, AAll, pickQ, ftQ, inHeap, RV, Nd.cells, tys: RV, Nd.cells
-- NOIDS: noIdsE_I32, noIdsE_ND
-- LENS: I32_len, ND_len
namespace Go.Al
open Go.Proofs
/-- An act: its kind, a slot, a node. -/
structure AAct where
  kind : Int
  i : Int
  nd : Nd
def AAct.cells (a : AAct) : List AV := [.sc (.int .u8 a.kind), .sc (.int .i32 a.i), .sc (.int .u64 a.nd.key), .sc (.int .u64 a.nd.val), .sc (.int .i64 a.nd.flag), .sc (.int .i64 a.nd.tag), .sc (.int .i32 a.nd.prev), .sc (.int .i32 a.nd.next)]
def raDo (R : RA) (a : AAct) : RA × Int × Bool :=
  if a.kind.tmod 3 = 0 then ((raAlloc R).1, (raAlloc R).2, false)
  else if a.kind.tmod 3 = 1 then ((raFree R a.i).1, 0, (raFree R a.i).2)
  else ((raSet R a.i a.nd).1, 0, (raSet R a.i a.nd).2)
def arDo (A : AR) (a : AAct) : AR × Int × Bool :=
  if a.kind.tmod 3 = 0 then ((arAlloc A).1, (arAlloc A).2, false)
  else if a.kind.tmod 3 = 1 then ((arFree A a.i).1, 0, (arFree A a.i).2)
  else ((arSet A a.i a.nd).1, 0, (arSet A a.i a.nd).2)
theorem arDo_of {R : RA} (h : RaOk R) (a : AAct) : arDo (arnOf R) a = (arnOf (raDo R a).1, (raDo R a).2) ∧ RaOk (raDo R a).1 := by
  unfold arDo raDo
  split
  · obtain ⟨h1, h2, _⟩ := arAlloc_of h
    rw [h1]
    exact ⟨rfl, h2⟩
  · split
    · obtain ⟨h1, h2⟩ := arFree_of h a.i
      rw [h1]
      exact ⟨rfl, h2⟩
    · obtain ⟨h1, h2⟩ := arSet_of h a.i a.nd
      rw [h1]
      exact ⟨rfl, h2⟩
end Go.Al
end
section
set_option linter.unusedVariables false
set_option linter.unusedSimpArgs false
set_option maxRecDepth 20000
set_option maxHeartbeats 1600000
-- axs, AThen, ABlock, dstsOk, AStep, callsF, AWant, aop, AS.ev, AS.put, upd, AS.bound, abin, aint, aload, astore, cellsAt, AV.cells, alen, elems, AV.int?, FPost, aresL, ares1, pack, afill, splice, Value.oneCell', Nat.reduceLT, Nat.reduceLeDiff, Nat.reduceEqDiff, Nat.reduceAdd, Nat.reduceMul, Nat.reduceSub, Nat.reduceBEq, Int.reduceLE, Int.reduceLT, Int.reduceToNat, Int.reduceNeg, Int.reduceEq, axt, ftK, ft3, pickP, AScope, AAll, pickQ, ftQ, inHeap, RV, Nd.cells, tys: RV, Nd.cells
-- NOIDS: noIdsE_I32, noIdsE_ND
-- LENS: I32_len, ND_len
namespace Go.Al
open Go.Proofs
theorem ra_len {R : RA} (ok : RaOk R) : ((arnOf R).slots.length : Int) = R.len := by
  have := ok.e0
  have := ok.e1
  rw [slots_len]; omega
theorem cRIs {H : AH} {n a s : Nat} {fv : AV} {R : RA} (h : ArH H n a s fv (arnOf R)) (ok : RaOk R) (i : Int) (hi : I32ok i) :
    HCalls Try.prog 70 [.ptr a 4 0 0, .sc (.int .i32 i)] H n fun r H' n' => r = .sc (.bool (raIs R i)) ∧ H' = H ∧ n' = n := by
  have := cArIs h i hi
  rwa [arIs_of ok] at this
theorem cRAt {H : AH} {n a s : Nat} {fv : AV} {R : RA} (h : ArH H n a s fv (arnOf R)) (ok : RaOk R) (i : Int) (hi : I32ok i) :
    HCalls Try.prog 46 [.ptr a 4 0 0, .sc (.int .i32 i)] H n fun r H' n' => r = .agg (raAt R i).cells ∧ H' = upd H n (some (.obj 82 6 [(raAt R i).cells] false)) ∧ n' = n + 1 := by
  have := cArAt h i hi
  rwa [arAt_of ok] at this
theorem cRLen {H : AH} {n a s : Nat} {fv : AV} {R : RA} (h : ArH H n a s fv (arnOf R)) (ok : RaOk R) :
    HCalls Try.prog 41 [.ptr a 4 0 0] H n fun r H' n' => r = .sc (.int .i64 R.len) ∧ H' = H ∧ n' = n := by
  have := cArLen h
  rwa [ra_len ok] at this
theorem cRSet {H : AH} {n a s : Nat} {fv : AV} {R : RA} (h : ArH H n a s fv (arnOf R)) (ok : RaOk R) (i : Int) (hi : I32ok i) (x : Nd) :
    HCalls Try.prog 74 [.ptr a 4 0 0, .sc (.int .i32 i), .agg x.cells] H n fun r H' n' => r = .sc (.bool (raSet R i x).2) ∧ H' = setH H n s (arnOf (raSet R i x).1) x ∧ n' = n + 1 := by
  have := cArSet h i hi x
  rwa [(arSet_of ok i x).1] at this
theorem ArH.setR {H : AH} {n a s : Nat} {fv : AV} {R : RA} (h : ArH H n a s fv (arnOf R)) (ok : RaOk R) (i : Int) (x : Nd) : ArH (setH H n s (arnOf (raSet R i x).1) x) (n + 1) a s fv (arnOf (raSet R i x).1) := by
  have h2 := arSet_rows (arnOf R) i x
  rw [(arSet_of ok i x).1] at h2
  exact h.set x h2.1 h2.2.1 h2.2.2.1 h2.2.2.2
theorem cRFree {H : AH} {n a s : Nat} {fv : AV} {R : RA} (h : ArH H n a s fv (arnOf R)) (ok : RaOk R) (i : Int) (hi : I32ok i) (hl : R.len ≤ 1000000) :
    HCalls Try.prog 59 [.ptr a 4 0 0, .sc (.int .i32 i)] H n fun r H' n' => r = .sc (.bool (raFree R i).2) ∧ ArTo H n a s fv H' n' (arnOf (raFree R i).1) := by
  have hf := ra_free_len ok
  have e0 := ok.e0
  have e1 := ok.e1
  have := cArFree h i hi (by show R.freed.length ≤ _; omega) (by show 0 ≤ raLive R; unfold raLive; omega) (by show raLive R ≤ _; unfold raLive; omega)
  rwa [(arFree_of ok i).1] at this
theorem cRAlloc {H : AH} {n a s : Nat} {fv : AV} {R : RA} (h : ArH H n a s fv (arnOf R)) (ok : RaOk R) (hl : R.len ≤ 1000000) :
    HCalls Try.prog 73 [.ptr a 4 0 0] H n fun r H' n' => r = .sc (.int .i32 (raAlloc R).2) ∧ ArTo H n a s fv H' n' (arnOf (raAlloc R).1) := by
  have hlen := ra_len ok
  have := cArAlloc h (arOk_of ok) (by omega)
  rwa [(arAlloc_of ok).1] at this
theorem ArTo.new {H H' : AH} {n n' a s : Nat} {fv : AV} {A' : AR} {x : Option AO} (h : ArTo (upd H n x) (n + 1) a s fv H' n' A') : ArTo H n a s fv H' n' A' := by
  obtain ⟨le, keep, s', fv', h1, h2⟩ := h
  refine ⟨by omega, fun j hj ho => (keep j (by omega) ho).trans (upd_ne _ _ (by omega)), s', fv', h1, fun j hj => ?_⟩
  rcases h2 j hj with h | h
  · exact .inl h
  · exact .inr (by omega)
theorem ArTo.setR {H : AH} {n a s : Nat} {fv : AV} {R : RA} (h : ArH H n a s fv (arnOf R)) (ok : RaOk R) (i : Int) (x : Nd) : ArTo H n a s fv (setH H n s (arnOf (raSet R i x).1) x) (n + 1) (arnOf (raSet R i x).1) := by
  refine ⟨by omega, fun j hj ho => ?_, s, fv, h.setR ok i x, fun j hj => .inl hj⟩
  have : ¬ j = s := fun e => ho (.inr (.inl e))
  unfold Al.setH
  rw [upd_ne _ _ this, upd_ne _ _ (by omega)]
theorem raDo_len {R : RA} (ok : RaOk R) (x : AAct) : (raDo R x).1.ever ≤ R.ever + 1 ∧ (raDo R x).1.len ≤ max R.len (2 * (R.ever + 1)) := by
  have e0 := ok.e0
  have e1 := ok.e1
  unfold raDo
  split
  · unfold raAlloc
    split
    · unfold raSet
      split <;> simp only <;> omega
    · simp only
      split <;> omega
  · split
    · unfold raFree
      split <;> simp only <;> omega
    · unfold raSet
      split <;> simp only <;> omega
def raRun (c : Int) (l : List AAct) : RA := l.foldl (fun R a => (raDo R a).1) (raNew (1 + c.tmod 5))
theorem raRun_snoc (c : Int) (l : List AAct) (a : AAct) : raRun c (l ++ [a]) = (raDo (raRun c l) a).1 := by simp [raRun]
theorem raNew_small {c : Int} (h0 : 0 ≤ c.tmod 5) (h1 : c.tmod 5 < 5) : raNew (1 + c.tmod 5) = ⟨2 + c.tmod 5, 0, [], [nd0]⟩ := by
  unfold raNew
  have h2 : ¬ (1 : Int) > 1 + c.tmod 5 := by omega
  have h3 : ¬ (1048576 : Int) < 1 + c.tmod 5 := by omega
  rw [if_neg h2, if_neg h3]
  congr 1
  omega
theorem raRun_ok {c : Int} (h0 : 0 ≤ c.tmod 5) (h1 : c.tmod 5 < 5) : ∀ (l : List AAct), RaOk (raRun c l) ∧ (raRun c l).ever ≤ l.length ∧ (raRun c l).len ≤ 2 * l.length + 8 := by
  have gen : ∀ (l : List AAct) (R : RA) (k : Nat), RaOk R → R.ever ≤ k → R.len ≤ 2 * k + 8 → RaOk (l.foldl (fun R a => (raDo R a).1) R) ∧ (l.foldl (fun R a => (raDo R a).1) R).ever ≤ (k + l.length : Nat) ∧ (l.foldl (fun R a => (raDo R a).1) R).len ≤ 2 * (k + l.length : Nat) + 8 := by
    intro l
    induction l with
    | nil => intro R k h1 h2 h3; exact ⟨h1, by simpa using h2, by simpa using h3⟩
    | cons a l ih =>
      intro R k h1 h2 h3
      obtain ⟨k1, k2⟩ := raDo_len h1 a
      have := ih (raDo R a).1 (k + 1) (arDo_of h1 a).2 (by omega) (by omega)
      rw [List.length_cons, show k + (l.length + 1) = k + 1 + l.length by omega]
      exact this
  intro l
  have hn := raNew_small h0 h1
  have := gen l (raNew (1 + c.tmod 5)) 0 (arNew_of _).2 (by rw [hn]; show (0 : Int) ≤ _; omega) (by rw [hn]; show 2 + c.tmod 5 ≤ _; omega)
  rw [Nat.zero_add] at this
  exact this
end Go.Al
end
