/- Abstract values and states over the model's worlds, each operation told, and the rules: generic, of no program. Conditions: none. -/
import Derived.Laws.AppendOwn
import Derived.Laws.CopyRow
import Derived.Below
import Derived.Deep.LoopGhost
import Derived.IntWalk
import Derived.Still
import Derived.Scope
set_option linter.unusedVariables false
set_option linter.unusedSimpArgs false
/- Abstract values over the model's worlds: what a Go value reads as, and that it goes on reading so. -/
namespace Go.Al

/-- An abstract value. lst: a frozen row, read by its elements' cells; sl: a slice of a live object; slc: the same with its capacity; ptr: a place in a live object; fp: a place in frozen memory, by its cells. -/
inductive AV where
  | sc (v : Value)
  | any
  | agg (cs : List AV)
  | tup (vs : List AV)
  | lst (z : Nat) (es : List (List AV))
  | sl (id z off n : Nat)
  | ptr (id z i off : Nat)
  | fp (cs : List AV)
  | fn (f : FuncId) (cs : List AV)
  | mp (id : Nat)
  | slc (id z off m c : Nat)
  deriving Inhabited

/-- A live object: a row of elements (a variable: of one), sealed or not; or a map. -/
inductive AO where
  | obj (t z : Nat) (es : List (List AV)) (s : Bool)
  | map (es : List (Value × AV))
  deriving Inhabited

abbrev AH := Nat → Option AO
def upd {α : Type} (f : Nat → α) (i : Nat) (v : α) : Nat → α := fun j => if j = i then v else f j
theorem upd_same {α : Type} (f : Nat → α) (i : Nat) (v : α) : upd f i v i = v := by simp [upd]
theorem upd_ne {α : Type} (f : Nat → α) {i j : Nat} (v : α) (h : j ≠ i) : upd f i v j = f j := by simp [upd, h]

/-- One cell's value. -/
def One (u : Value) : Prop := u.oneCell' = true

mutual
/-- The value v reads as the abstract one, in world w; the frozen cells are none of B; the objects are numbered below n and lie in the blocks β. -/
def RepV (w : World) (B : Nat → Nat → Prop) (β : Nat → Nat) (n : Nat) : AV → Value → Prop
  | .sc u, v => v = u
  | .any, _ => True
  | .agg cs, v => ∃ vs : List Value, v = .agg vs.toArray ∧ RepC w B β n cs vs
  | .tup cs, v => ∃ vs : List Value, v = .tuple vs.toArray ∧ RepL w B β n cs vs
  | .lst z es, v => ((∃ a, v = .slice a 0 0) ∧ es = []) ∨ ∃ b o c, v = .slice (some ⟨b, o, none⟩) es.length c ∧ es.length ≤ c ∧ RepEs w B β n z b o es
  | .sl id z off m, v => id < n ∧ ∃ c o, v = .slice (some ⟨β id, o, none⟩) m c ∧ m ≤ c ∧ (m ≠ 0 ∨ off = 0 → o = off * z) ∧ c ≤ maxLen ∧ ∀ j, j < c * z → (w.cell? ⟨β id, o + j, none⟩).isSome = true
  | .ptr id z i off, v => id < n ∧ v = .pointer (some ⟨β id, i * z + off, none⟩)
  | .fp cs, v => ∃ b o, v = .pointer (some ⟨b, o, none⟩) ∧ RepF w B β n b o cs
  | .fn f cs, v => ∃ vs : List Value, v = .func (.func f) #[] vs.toArray ∧ RepL w B β n cs vs
  | .mp id, v => id < n ∧ v = .map (some (β id))
  | .slc id z off m c, v => id < n ∧ v = .slice (some ⟨β id, off * z, none⟩) m c ∧ m ≤ c ∧ c ≤ maxLen ∧ ∀ j, j < c * z → (w.cell? ⟨β id, off * z + j, none⟩).isSome = true
def RepL (w : World) (B : Nat → Nat → Prop) (β : Nat → Nat) (n : Nat) : List AV → List Value → Prop
  | [], vs => vs = []
  | c :: cs, vs => ∃ u us, vs = u :: us ∧ RepV w B β n c u ∧ RepL w B β n cs us
/-- Cells: each of one cell. -/
def RepC (w : World) (B : Nat → Nat → Prop) (β : Nat → Nat) (n : Nat) : List AV → List Value → Prop
  | [], vs => vs = []
  | c :: cs, vs => ∃ u us, vs = u :: us ∧ RepV w B β n c u ∧ One u ∧ RepC w B β n cs us
/-- Frozen cells from (b, o) on. -/
def RepF (w : World) (B : Nat → Nat → Prop) (β : Nat → Nat) (n : Nat) (b o : Nat) : List AV → Prop
  | [] => True
  | c :: cs => (∃ u, w.cell? ⟨b, o, none⟩ = some u ∧ RepV w B β n c u ∧ One u) ∧ ¬ B b o ∧ RepF w B β n b (o + 1) cs
def RepEs (w : World) (B : Nat → Nat → Prop) (β : Nat → Nat) (n z : Nat) (b o : Nat) : List (List AV) → Prop
  | [] => True
  | e :: es => e.length = z ∧ RepF w B β n b o e ∧ RepEs w B β n z b (o + z) es
end

/-- Cells of w that are not of B stay, and are not of B'; no cell goes. -/
def Pres (w : World) (B : Nat → Nat → Prop) (w' : World) (B' : Nat → Nat → Prop) : Prop :=
  (∀ b o u, w.cell? ⟨b, o, none⟩ = some u → ¬ B b o → w'.cell? ⟨b, o, none⟩ = some u ∧ ¬ B' b o) ∧
  ∀ b o, (w.cell? ⟨b, o, none⟩).isSome = true → (w'.cell? ⟨b, o, none⟩).isSome = true

section
variable {w w' : World} {B B' : Nat → Nat → Prop} {β β' : Nat → Nat} {n n' : Nat}
mutual
theorem RepV.mono (hp : Pres w B w' B') (hβ : ∀ i, i < n → β' i = β i) (hn : n ≤ n') : ∀ (a : AV) (v : Value), RepV w B β n a v → RepV w' B' β' n' a v
  | .sc u, v, h => by simpa only [RepV] using h
  | .any, _, _ => by simp only [RepV]
  | .agg cs, v, h => by
    simp only [RepV] at h ⊢
    obtain ⟨vs, hv, h⟩ := h
    exact ⟨vs, hv, RepC.mono hp hβ hn cs vs h⟩
  | .tup cs, v, h => by
    simp only [RepV] at h ⊢
    obtain ⟨vs, hv, h⟩ := h
    exact ⟨vs, hv, RepL.mono hp hβ hn cs vs h⟩
  | .lst z es, v, h => by
    simp only [RepV] at h ⊢
    rcases h with h | ⟨b, o, c, hv, hc, h⟩
    · exact .inl h
    · exact .inr ⟨b, o, c, hv, hc, RepEs.mono hp hβ hn z b o es h⟩
  | .sl id z off m, v, h => by
    simp only [RepV] at h ⊢
    obtain ⟨hi, c, o, hv, hc, h1, h2, h3⟩ := h
    exact ⟨by omega, c, o, by rw [hv, hβ id hi], hc, h1, h2, fun j hj => by rw [hβ id hi]; exact hp.2 _ _ (h3 j hj)⟩
  | .ptr id z i off, v, h => by
    simp only [RepV] at h ⊢
    exact ⟨by omega, by rw [h.2, hβ id h.1]⟩
  | .fp cs, v, h => by
    simp only [RepV] at h ⊢
    obtain ⟨b, o, hv, h⟩ := h
    exact ⟨b, o, hv, RepF.mono hp hβ hn b o cs h⟩
  | .fn f cs, v, h => by
    simp only [RepV] at h ⊢
    obtain ⟨vs, hv, h⟩ := h
    exact ⟨vs, hv, RepL.mono hp hβ hn cs vs h⟩
  | .mp id, v, h => by
    simp only [RepV] at h ⊢
    exact ⟨by omega, by rw [h.2, hβ id h.1]⟩
  | .slc id z off m c, v, h => by
    simp only [RepV] at h ⊢
    obtain ⟨hi, hv, hc, h1, h3⟩ := h
    exact ⟨by omega, by rw [hv, hβ id hi], hc, h1, fun j hj => by rw [hβ id hi]; exact hp.2 _ _ (h3 j hj)⟩
theorem RepL.mono (hp : Pres w B w' B') (hβ : ∀ i, i < n → β' i = β i) (hn : n ≤ n') : ∀ (cs : List AV) (vs : List Value), RepL w B β n cs vs → RepL w' B' β' n' cs vs
  | [], vs, h => by simpa only [RepL] using h
  | c :: cs, vs, h => by
    simp only [RepL] at h ⊢
    obtain ⟨u, us, hv, h1, h2⟩ := h
    exact ⟨u, us, hv, RepV.mono hp hβ hn c u h1, RepL.mono hp hβ hn cs us h2⟩
theorem RepC.mono (hp : Pres w B w' B') (hβ : ∀ i, i < n → β' i = β i) (hn : n ≤ n') : ∀ (cs : List AV) (vs : List Value), RepC w B β n cs vs → RepC w' B' β' n' cs vs
  | [], vs, h => by simpa only [RepC] using h
  | c :: cs, vs, h => by
    simp only [RepC] at h ⊢
    obtain ⟨u, us, hv, h1, h0, h2⟩ := h
    exact ⟨u, us, hv, RepV.mono hp hβ hn c u h1, h0, RepC.mono hp hβ hn cs us h2⟩
theorem RepF.mono (hp : Pres w B w' B') (hβ : ∀ i, i < n → β' i = β i) (hn : n ≤ n') (b o : Nat) : ∀ (cs : List AV), RepF w B β n b o cs → RepF w' B' β' n' b o cs
  | [], _ => by simp only [RepF]
  | c :: cs, h => by
    simp only [RepF] at h ⊢
    obtain ⟨⟨u, hu, h1, h0⟩, hb, h2⟩ := h
    obtain ⟨k1, k2⟩ := hp.1 b o u hu hb
    exact ⟨⟨u, k1, RepV.mono hp hβ hn c u h1, h0⟩, k2, RepF.mono hp hβ hn b (o + 1) cs h2⟩
theorem RepEs.mono (hp : Pres w B w' B') (hβ : ∀ i, i < n → β' i = β i) (hn : n ≤ n') (z b o : Nat) : ∀ (es : List (List AV)), RepEs w B β n z b o es → RepEs w' B' β' n' z b o es
  | [], _ => by simp only [RepEs]
  | e :: es, h => by
    simp only [RepEs] at h ⊢
    exact ⟨h.1, RepF.mono hp hβ hn b o e h.2.1, RepEs.mono hp hβ hn z b (o + z) es h.2.2⟩
end

theorem RepC.len : ∀ {cs : List AV} {vs : List Value}, RepC w B β n cs vs → vs.length = cs.length
  | [], vs, h => by simp only [RepC] at h; simp [h]
  | c :: cs, vs, h => by
    simp only [RepC] at h
    obtain ⟨u, us, rfl, _, _, h2⟩ := h
    simp [RepC.len h2]
theorem RepL.len : ∀ {cs : List AV} {vs : List Value}, RepL w B β n cs vs → vs.length = cs.length
  | [], vs, h => by simp only [RepL] at h; simp [h]
  | c :: cs, vs, h => by
    simp only [RepL] at h
    obtain ⟨u, us, rfl, _, h2⟩ := h
    simp [RepL.len h2]
theorem RepC.one : ∀ {cs : List AV} {vs : List Value}, RepC w B β n cs vs → ∀ u ∈ vs, u.oneCell' = true
  | [], vs, h => by simp only [RepC] at h; simp [h]
  | c :: cs, vs, h => by
    simp only [RepC] at h
    obtain ⟨u, us, rfl, _, h0, h2⟩ := h
    intro x hx
    rcases List.mem_cons.1 hx with rfl | hx
    · exact h0
    · exact RepC.one h2 x hx
theorem RepC.get : ∀ {cs : List AV} {vs : List Value}, RepC w B β n cs vs → ∀ (i : Nat) (c : AV), cs[i]? = some c → ∃ u, vs[i]? = some u ∧ RepV w B β n c u ∧ One u
  | [], _, _ => by intro i c hc; simp at hc
  | c0 :: cs, vs, h => by
    simp only [RepC] at h
    obtain ⟨u, us, rfl, h1, h0, h2⟩ := h
    intro i c hc
    cases i with
    | zero => simp at hc; subst hc; exact ⟨u, rfl, h1, h0⟩
    | succ i => simpa using RepC.get h2 i c (by simpa using hc)
theorem RepL.get : ∀ {cs : List AV} {vs : List Value}, RepL w B β n cs vs → ∀ (i : Nat) (c : AV), cs[i]? = some c → ∃ u, vs[i]? = some u ∧ RepV w B β n c u
  | [], _, _ => by intro i c hc; simp at hc
  | c0 :: cs, vs, h => by
    simp only [RepL] at h
    obtain ⟨u, us, rfl, h1, h2⟩ := h
    intro i c hc
    cases i with
    | zero => simp at hc; subst hc; exact ⟨u, rfl, h1⟩
    | succ i => simpa using RepL.get h2 i c (by simpa using hc)
theorem RepC.append : ∀ {cs ds : List AV} {vs us : List Value}, RepC w B β n cs vs → RepC w B β n ds us → RepC w B β n (cs ++ ds) (vs ++ us)
  | [], ds, vs, us, h, k => by simp only [RepC] at h; subst h; simpa using k
  | c :: cs, ds, vs, us, h, k => by
    simp only [RepC] at h
    obtain ⟨u, us', rfl, h1, h0, h2⟩ := h
    simp only [List.cons_append, RepC]
    exact ⟨u, us' ++ us, rfl, h1, h0, RepC.append h2 k⟩
theorem RepL.append : ∀ {cs ds : List AV} {vs us : List Value}, RepL w B β n cs vs → RepL w B β n ds us → RepL w B β n (cs ++ ds) (vs ++ us)
  | [], ds, vs, us, h, k => by simp only [RepL] at h; subst h; simpa using k
  | c :: cs, ds, vs, us, h, k => by
    simp only [RepL] at h
    obtain ⟨u, us', rfl, h1, h2⟩ := h
    simp only [List.cons_append, RepL]
    exact ⟨u, us' ++ us, rfl, h1, RepL.append h2 k⟩
theorem RepC.take : ∀ {cs : List AV} {vs : List Value} (k : Nat), RepC w B β n cs vs → RepC w B β n (cs.take k) (vs.take k)
  | [], vs, k, h => by simp only [RepC] at h; subst h; simp [RepC]
  | c :: cs, vs, k, h => by
    simp only [RepC] at h
    obtain ⟨u, us, rfl, h1, h0, h2⟩ := h
    cases k with
    | zero => simp [RepC]
    | succ k => simp only [List.take_succ_cons, RepC]; exact ⟨u, _, rfl, h1, h0, RepC.take k h2⟩
theorem RepC.drop : ∀ {cs : List AV} {vs : List Value} (k : Nat), RepC w B β n cs vs → RepC w B β n (cs.drop k) (vs.drop k)
  | [], vs, k, h => by simp only [RepC] at h; subst h; simp [RepC]
  | c :: cs, vs, k, h => by
    cases k with
    | zero => simpa using h
    | succ k =>
      simp only [RepC] at h
      obtain ⟨u, us, rfl, h1, h0, h2⟩ := h
      simpa using RepC.drop k h2
/-- Frozen cells as values. -/
theorem RepF.cells : ∀ {cs : List AV} {b o : Nat}, RepF w B β n b o cs → ∃ vs, RepC w B β n cs vs ∧ ∀ j u, vs[j]? = some u → w.cell? ⟨b, o + j, none⟩ = some u
  | [], b, o, _ => ⟨[], by simp [RepC], by intro j u h; simp at h⟩
  | c :: cs, b, o, h => by
    simp only [RepF] at h
    obtain ⟨⟨u, hu, h1, h0⟩, _, h2⟩ := h
    obtain ⟨vs, k1, k2⟩ := RepF.cells h2
    refine ⟨u :: vs, by simp only [RepC]; exact ⟨u, vs, rfl, h1, h0, k1⟩, ?_⟩
    intro j x hx
    cases j with
    | zero => simp at hx; subst hx; exact hu
    | succ j => have := k2 j x (by simpa using hx); rwa [show o + (j + 1) = o + 1 + j by omega]
theorem RepF.drop : ∀ {cs : List AV} {b o : Nat} (k : Nat), RepF w B β n b o cs → RepF w B β n b (o + k) (cs.drop k)
  | cs, b, o, 0, h => by simpa using h
  | [], b, o, k + 1, _ => by simp [RepF]
  | c :: cs, b, o, k + 1, h => by
    simp only [RepF] at h
    have := RepF.drop k h.2.2
    rw [show o + 1 + k = o + (k + 1) by omega] at this
    simpa using this
theorem RepF.of_take : ∀ {cs : List AV} {b o : Nat} (k : Nat), RepF w B β n b o cs → RepF w B β n b o (cs.take k)
  | cs, b, o, 0, h => by simp [RepF]
  | [], b, o, k + 1, _ => by simp [RepF]
  | c :: cs, b, o, k + 1, h => by
    simp only [RepF] at h
    simp only [List.take_succ_cons, RepF]
    exact ⟨h.1, h.2.1, RepF.of_take k h.2.2⟩
theorem RepEs.get : ∀ {es : List (List AV)} {z b o : Nat}, RepEs w B β n z b o es → ∀ (i : Nat) (e : List AV), es[i]? = some e → e.length = z ∧ RepF w B β n b (o + i * z) e
  | [], _, _, _, _ => by intro i c hc; simp at hc
  | e0 :: es, z, b, o, h => by
    simp only [RepEs] at h
    intro i e he
    cases i with
    | zero => simp at he; subst he; simpa using ⟨h.1, h.2.1⟩
    | succ i =>
      have := RepEs.get h.2.2 i e (by simpa using he)
      rw [show o + (i + 1) * z = o + z + i * z by rw [Nat.succ_mul]; omega]
      exact this
theorem RepEs.drop : ∀ {es : List (List AV)} {z b o : Nat} (k : Nat), RepEs w B β n z b o es → RepEs w B β n z b (o + k * z) (es.drop k)
  | es, z, b, o, 0, h => by simpa using h
  | [], z, b, o, k + 1, _ => by simp [RepEs]
  | e :: es, z, b, o, k + 1, h => by
    simp only [RepEs] at h
    have := RepEs.drop k h.2.2
    rw [show o + z + k * z = o + (k + 1) * z by rw [Nat.succ_mul]; omega] at this
    simpa using this
theorem RepEs.of_take : ∀ {es : List (List AV)} {z b o : Nat} (k : Nat), RepEs w B β n z b o es → RepEs w B β n z b o (es.take k)
  | es, z, b, o, 0, h => by simp [RepEs]
  | [], z, b, o, k + 1, _ => by simp [RepEs]
  | e :: es, z, b, o, k + 1, h => by
    simp only [RepEs] at h
    simp only [List.take_succ_cons, RepEs]
    exact ⟨h.1, h.2.1, RepEs.of_take k h.2.2⟩
theorem RepF.append : ∀ {cs ds : List AV} {b o : Nat}, RepF w B β n b o cs → RepF w B β n b (o + cs.length) ds → RepF w B β n b o (cs ++ ds)
  | [], ds, b, o, _, k => by simpa using k
  | c :: cs, ds, b, o, h, k => by
    simp only [RepF] at h
    simp only [List.cons_append, RepF]
    refine ⟨h.1, h.2.1, RepF.append h.2.2 ?_⟩
    rw [List.length_cons] at k
    rwa [show o + 1 + cs.length = o + (cs.length + 1) by omega]
/-- All elements' cells, one behind the other. -/
theorem RepEs.flat : ∀ {es : List (List AV)} {z b o : Nat}, RepEs w B β n z b o es → es.flatten.length = es.length * z ∧ RepF w B β n b o es.flatten
  | [], _, _, _, _ => by simp [RepF]
  | e :: es, z, b, o, h => by
    simp only [RepEs] at h
    obtain ⟨k1, k2⟩ := RepEs.flat h.2.2
    refine ⟨by simp only [List.flatten_cons, List.length_append, k1, h.1, List.length_cons, Nat.succ_mul]; omega, ?_⟩
    simp only [List.flatten_cons]
    exact RepF.append h.2.1 (by rw [h.1]; exact k2)
end
end Go.Al

/- Abstract states over the model's worlds, and the rules of code over them. -/
namespace Go.Al

/-- What may be written: B0, the open objects' blocks, and the room behind the sealed ones. -/
def Bad (B0 : Nat → Nat → Prop) (β : Nat → Nat) (H : AH) : Nat → Nat → Prop := fun b o =>
  B0 b o ∨ ∃ id t z es s, H id = some (.obj t z es s) ∧ β id = b ∧ (s = false ∨ es.length * z ≤ o)

def ObjOk (w : World) (B : Nat → Nat → Prop) (β : Nat → Nat) (n b : Nat) (t z : Nat) (es : List (List AV)) : Prop :=
  ∃ cur cap, w.heap[b]? = some (.cells cur t (0, 0)) ∧ es.length ≤ cap ∧ cap ≤ maxLen ∧ cur.size = cap * z ∧
    RepC w B β n es.flatten (cur.toList.take (es.length * z)) ∧ ∀ x ∈ es, x.length = z

def RepM (w : World) (B : Nat → Nat → Prop) (β : Nat → Nat) (n : Nat) : List (Value × AV) → List MapEntry → Prop
  | [], es => es = []
  | (k, a) :: r, es => ∃ e es', es = e :: es' ∧ e.key = k ∧ RepV w B β n a e.val ∧ RepM w B β n r es'

theorem RepM.mono {w w' : World} {B B' : Nat → Nat → Prop} {β β' : Nat → Nat} {n n' : Nat} (hp : Pres w B w' B') (hβ : ∀ i, i < n → β' i = β i) (hn : n ≤ n') :
    ∀ (es : List (Value × AV)) (l : List MapEntry), RepM w B β n es l → RepM w' B' β' n' es l
  | [], l, h => by simpa only [RepM] using h
  | (k, a) :: r, l, h => by
    simp only [RepM] at h ⊢
    obtain ⟨e, l', h1, h2, h3, h4⟩ := h
    exact ⟨e, l', h1, h2, h3.mono hp hβ hn, RepM.mono hp hβ hn r l' h4⟩

structure HRep (w : World) (B0 : Nat → Nat → Prop) (base : Nat) (β : Nat → Nat) (n : Nat) (H : AH) : Prop where
  dom : ∀ id o, H id = some o → id < n
  own : ∀ id o, H id = some o → base ≤ β id ∧ β id < w.heap.size
  inj : ∀ i j o o', H i = some o → H j = some o' → β i = β j → i = j
  obj : ∀ id t z es s, H id = some (.obj t z es s) → ObjOk w (Bad B0 β H) β n (β id) t z es
  map : ∀ id es, H id = some (.map es) → ∃ ents clock, w.heap[β id]? = some (.map ents clock) ∧ RepM w (Bad B0 β H) β n es ents.toList

structure Ext (w : World) (B0 : Nat → Nat → Prop) (β : Nat → Nat) (n : Nat) (H : AH) (w' : World) (β' : Nat → Nat) (n' : Nat) (H' : AH) : Prop where
  le : n ≤ n'
  agree : ∀ i, i < n → β' i = β i
  pres : Pres w (Bad B0 β H) w' (Bad B0 β' H')
  size : w.heap.size ≤ w'.heap.size
  os : w'.os = w.os
  tape : w'.tape = w.tape
  output : w'.output = w.output
  block : ∀ k, k < w.heap.size → (∀ id o, H id = some o → β id ≠ k) → w'.heap[k]? = w.heap[k]?
  owner : ∀ id o, H' id = some o → (∃ i o0, H i = some o0 ∧ β i = β' id) ∨ w.heap.size ≤ β' id

theorem Pres.refl (w : World) (B : Nat → Nat → Prop) : Pres w B w B := ⟨fun _ _ _ h hb => ⟨h, hb⟩, fun _ _ h => h⟩
theorem Pres.trans {a b c : World} {A B C : Nat → Nat → Prop} (h : Pres a A b B) (k : Pres b B c C) : Pres a A c C :=
  ⟨fun x o u hu hb => let ⟨h1, h2⟩ := h.1 x o u hu hb; k.1 x o u h1 h2, fun b o h1 => k.2 b o (h.2 b o h1)⟩
theorem cell_lt {w : World} {b o : Nat} (h : (w.cell? ⟨b, o, none⟩).isSome = true) : b < w.heap.size := by
  rcases Nat.lt_or_ge b w.heap.size with h1 | h1
  · exact h1
  · simp [World.cell?, Array.getElem?_eq_none h1] at h
/-- Where every old block stays. -/
theorem Pres.old {w w' : World} {B B' : Nat → Nat → Prop} (h : ∀ k, k < w.heap.size → w'.heap[k]? = w.heap[k]?) (hB : ∀ b o, b < w.heap.size → B' b o → B b o) : Pres w B w' B' :=
  ⟨fun b o u hu hn => by
    have hlt := cell_lt (w := w) (b := b) (o := o) (by rw [hu]; rfl)
    exact ⟨by rw [← hu]; exact World.cell?_of_block (h b hlt), fun k => hn (hB b o hlt k)⟩,
  fun b o h1 => by rw [World.cell?_of_block (h b (cell_lt h1))]; exact h1⟩
theorem Ext.refl (w : World) (B0 : Nat → Nat → Prop) (β : Nat → Nat) (n : Nat) (H : AH) : Ext w B0 β n H w β n H :=
  ⟨Nat.le_refl _, fun _ _ => rfl, Pres.refl _ _, Nat.le_refl _, rfl, rfl, rfl, fun _ _ _ => rfl, fun id o h => .inl ⟨id, o, h, rfl⟩⟩
theorem Ext.trans {a b c : World} {B0 : Nat → Nat → Prop} {β β' β'' : Nat → Nat} {n n' n'' : Nat} {H H' H'' : AH}
    (h : Ext a B0 β n H b β' n' H') (k : Ext b B0 β' n' H' c β'' n'' H'') : Ext a B0 β n H c β'' n'' H'' where
  le := Nat.le_trans h.le k.le
  agree := fun i hi => (k.agree i (Nat.lt_of_lt_of_le hi h.le)).trans (h.agree i hi)
  pres := h.pres.trans k.pres
  size := Nat.le_trans h.size k.size
  os := k.os.trans h.os
  tape := k.tape.trans h.tape
  output := k.output.trans h.output
  block := fun x hx hn => by
    rw [k.block x (Nat.lt_of_lt_of_le hx h.size) ?_, h.block x hx hn]
    intro id o ho e
    rcases h.owner id o ho with ⟨i, o0, hi, hb⟩ | hb
    · exact hn i o0 hi (hb.trans e)
    · omega
  owner := fun id o ho => by
    rcases k.owner id o ho with ⟨i, o0, hi, hb⟩ | hb
    · rcases h.owner i o0 hi with ⟨j, o1, hj, hb'⟩ | hb'
      · exact .inl ⟨j, o1, hj, hb'.trans hb⟩
      · exact .inr (by omega)
    · exact .inr (Nat.le_trans h.size hb)

structure AS where
  t : Nat → AV
  H : AH
  n : Nat

def AS.ev (st : AS) : Operand → AV
  | .tmp t => st.t t
  | .const v => .sc v
  | .global g => .sc (.pointer (some ⟨g, 0, none⟩))
  | .func f => .fn f []
def AS.put (st : AS) (d : Option Nat) (v : AV) : AS :=
  match d with
  | some d => { st with t := upd st.t d v }
  | none => st

structure Inv (N : Nat) (a : Act) (w : World) (B0 : Nat → Nat → Prop) (base : Nat) (β : Nat → Nat) (st : AS) : Prop where
  size : a.tmps.size = N
  defers : a.defers = []
  tmps : ∀ i, RepV w (Bad B0 β st.H) β st.n (st.t i) (a.tmps.getD i undef)
  heap : HRep w B0 base β st.n st.H
  b0 : ∀ b o, B0 b o → b < base
  base : base ≤ w.heap.size

/-- Behind code: some state that fits, and the exit's own post. -/
def APost (N : Nat) (w : World) (B0 : Nat → Nat → Prop) (base : Nat) (β : Nat → Nat) (st : AS) (Q : Exit → AS → Prop) : Exit → Act → World → Prop :=
  fun e a' w' => ∃ st' β', Inv N a' w' B0 base β' st' ∧ Ext w B0 β st.n st.H w' β' st'.n st'.H ∧ Q e st'

def AWP (P : Program) (N : Nat) (c : Code) (Q : Exit → AS → Prop) (st : AS) : Prop :=
  ∀ a w B0 base β, Inv N a w B0 base β st → c.wp P (APost N w B0 base β st Q) a w

/-- Of a value: what its type tells need not be rewritten. -/
class Tok {α : Type} (a : α) : Type
instance Tok.any {α : Type} (a : α) : Tok a := ⟨⟩
def AThen (K : AS → Prop) (Q : Exit → AS → Prop) [Tok (K, Q)] : Exit → AS → Prop
  | .normal, st => K st
  | e, st => Q e st
def ABlock (id : Nat) (Q : Exit → AS → Prop) [Tok Q] : Exit → AS → Prop
  | .exit id', st => if id' = id then Q .normal st else Q (.exit id') st
  | e, st => Q e st

/-- Behind a scope: no jump leaves it. -/
def AScope (Q : Exit → AS → Prop) [Tok Q] : Exit → AS → Prop
  | .goto _, _ => False
  | e, st => Q e st

section
variable {P : Program} {N : Nat} {Q : Exit → AS → Prop} {st : AS}
theorem AWP.mono {c : Code} {Q' : Exit → AS → Prop} (h : AWP P N c Q st) (hq : ∀ e s, Q e s → Q' e s) : AWP P N c Q' st :=
  fun a w B0 base β hi => wp_mono (h a w B0 base β hi) fun _ _ _ ⟨s, b, h1, h2, h3⟩ => ⟨s, b, h1, h2, hq _ _ h3⟩
theorem AWP_skip (h : Q .normal st) : AWP P N .skip Q st :=
  fun _ w B0 _ β hi => wp_skip ⟨st, β, hi, Ext.refl _ _ _ _ _, h⟩
theorem AWP_ret (h : Q .ret st) : AWP P N .ret Q st :=
  fun _ w B0 _ β hi => wp_ret ⟨st, β, hi, Ext.refl _ _ _ _ _, h⟩
theorem AWP_exit {id : Nat} (h : Q (.exit id) st) : AWP P N (.exit id) Q st :=
  fun _ w B0 _ β hi => wp_exit ⟨st, β, hi, Ext.refl _ _ _ _ _, h⟩
theorem AWP_label {l : Nat} (h : Q .normal st) : AWP P N (.label l) Q st :=
  fun _ w B0 _ β hi => wp_label ⟨st, β, hi, Ext.refl _ _ _ _ _, h⟩
theorem AWP_seq {x y : Code} (h : AWP P N x (AThen (AWP P N y Q) Q) st) : AWP P N (.seq x y) Q st := by
  intro a w B0 base β hi
  refine wp_seq (wp_mono (h a w B0 base β hi) ?_)
  rintro e a' w' ⟨s, b, h1, h2, h3⟩
  cases e <;> simp only [Exit.then, AThen] at h3 ⊢
  case normal =>
    refine wp_mono (h3 a' w' B0 base b h1) ?_
    rintro e a'' w'' ⟨s', b', k1, k2, k3⟩
    exact ⟨s', b', k1, h2.trans k2, k3⟩
  all_goals exact ⟨s, b, h1, h2, h3⟩
theorem AWP_cond {c : Operand} {x y : Code} (b : Bool) (hc : st.ev c = .sc (.bool b)) (hx : b = true → AWP P N x Q st) (hy : b = false → AWP P N y Q st) :
    AWP P N (.cond c x y) Q st := by
  intro a w B0 base β hi
  have hev : a.eval c = .bool b := by
    cases c with
    | tmp t =>
      have h1 := hi.tmps t
      simp only [AS.ev] at hc
      rw [hc] at h1
      simp only [RepV] at h1
      exact h1
    | const v =>
      simp only [AS.ev, AV.sc.injEq] at hc
      exact hc
    | global g => simp [AS.ev] at hc
    | func f => simp [AS.ev] at hc
  exact wp_cond_split hev (fun h => hx h a w B0 base β hi) (fun h => hy h a w B0 base β hi)
theorem AWP_block {id : Nat} {c : Code} (h : AWP P N c (ABlock id Q) st) : AWP P N (.block id c) Q st := by
  intro a w B0 base β hi
  refine wp_block (wp_mono (h a w B0 base β hi) ?_)
  rintro e a' w' ⟨s, b, h1, h2, h3⟩
  cases e <;> simp only [Exit.inBlock, ABlock] at h3 ⊢
  case exit id' =>
    split
    · rename_i he; rw [if_pos he] at h3; exact ⟨s, b, h1, h2, h3⟩
    · rename_i he; rw [if_neg he] at h3; exact ⟨s, b, h1, h2, h3⟩
  all_goals exact ⟨s, b, h1, h2, h3⟩
theorem AWP_scope {c : Code} (h : AWP P N c (AScope Q) st) : AWP P N (.scope c) Q st := by
  intro a w B0 base β hi
  refine wp_scope_straight (wp_mono (h a w B0 base β hi) ?_)
  rintro e a' w' ⟨s, b, h1, h2, h3⟩
  cases e <;> simp only [AScope, Exit.noGoto] at h3 ⊢
  all_goals exact ⟨s, b, h1, h2, h3⟩
theorem AWP_loop {c : Code} (I : Nat → AS → Prop) (k : Nat) (h0 : I k st)
    (round : ∀ k s, I k s → AWP P N c (AThen (fun s' => ∃ k', k' < k ∧ I k' s') Q) s) : AWP P N (.loop c) Q st := by
  intro a w B0 base β hi
  refine wp_loop_ghost (fun k a' w' => ∃ s b, Inv N a' w' B0 base b s ∧ Ext w B0 β st.n st.H w' b s.n s.H ∧ I k s) k ⟨st, β, hi, Ext.refl _ _ _ _ _, h0⟩ ?_
  rintro k a' w' ⟨s, b, h1, h2, h3⟩
  refine wp_mono (round k s h3 a' w' B0 base b h1) ?_
  rintro e a'' w'' ⟨s', b', k1, k2, k3⟩
  cases e <;> simp only [Exit.then, AThen] at k3 ⊢
  case normal =>
    obtain ⟨k', hlt, hI⟩ := k3
    exact ⟨k', hlt, s', b', k1, h2.trans k2, hI⟩
  all_goals exact ⟨s', b', k1, h2.trans k2, k3⟩
/-- A state that tells less. -/
theorem Inv.weaken {a : Act} {w : World} {B0 : Nat → Nat → Prop} {base : Nat} {β : Nat → Nat} {t : Nat → AV} (h : Inv N a w B0 base β st)
    (ht : ∀ i, t i = st.t i ∨ t i = .any) : Inv N a w B0 base β { st with t := t } :=
  ⟨h.size, h.defers, fun i => by rcases ht i with e | e <;> simp only [e]; exact h.tmps i; simp only [RepV], h.heap, h.b0, h.base⟩
end

/-! ### Functions -/
def fnOk (P : Program) (f : FuncId) : Bool :=
  match P.funcs[f]? with
  | some fn => fn.body.isSome && !(fn.name == "runtime.NumGoroutine")
  | none => false

/-- The function f, called on args in a heap H. -/
def HCalls (P : Program) (f : FuncId) (args : List AV) (H : AH) (n : Nat) (R : AV → AH → Nat → Prop) : Prop :=
  fnOk P f = true ∧ ∀ w B0 base β cargs, (∀ b o, B0 b o → b < base) → base ≤ w.heap.size → HRep w B0 base β n H → RepL w (Bad B0 β H) β n args cargs →
    Calls P f cargs.toArray w fun e w' => ∃ β' n' H' r v, e = .returned v ∧ Ext w B0 β n H w' β' n' H' ∧ HRep w' B0 base β' n' H' ∧
      RepV w' (Bad B0 β' H') β' n' r v ∧ R r H' n'

theorem HCalls.mono {P : Program} {f : FuncId} {args : List AV} {H : AH} {n : Nat} {R R' : AV → AH → Nat → Prop} (h : HCalls P f args H n R)
    (hr : ∀ r H' n', R r H' n' → R' r H' n') : HCalls P f args H n R' :=
  ⟨h.1, fun w B0 base β cargs h1 h2 h3 h4 => (h.2 w B0 base β cargs h1 h2 h3 h4).mono
    fun _ _ ⟨β', n', H', r, v, k1, k2, k3, k4, k5⟩ => ⟨β', n', H', r, v, k1, k2, k3, k4, hr _ _ _ k5⟩⟩

/-- No objects. -/
def H0 : AH := fun _ => none
theorem Bad_H0 (B0 : Nat → Nat → Prop) (β : Nat → Nat) : Bad B0 β H0 = B0 := by
  funext b o
  simp [Bad, H0]
theorem HRep_H0 (w : World) (B0 : Nat → Nat → Prop) (base : Nat) (β : Nat → Nat) (n : Nat) : HRep w B0 base β n H0 :=
  ⟨fun _ _ h => by simp [H0] at h, fun _ _ h => by simp [H0] at h, fun _ _ _ _ h => by simp [H0] at h, fun _ _ _ _ _ h => by simp [H0] at h, fun _ _ h => by simp [H0] at h⟩

/-- Where every old block stays, so do the objects. -/
theorem HRep.below {w w' : World} {B0 : Nat → Nat → Prop} {base : Nat} {β : Nat → Nat} {n : Nat} {H : AH} (h : HRep w B0 base β n H)
    (hb : RowKit.Below w.heap.size w w') : HRep w' B0 base β n H := by
  have hp : Pres w (Bad B0 β H) w' (Bad B0 β H) := Pres.old hb.block (fun _ _ _ h => h)
  refine ⟨h.dom, fun id o ho => ⟨(h.own id o ho).1, Nat.lt_of_lt_of_le (h.own id o ho).2 hb.size⟩, h.inj, ?_, ?_⟩
  · intro id t z es s ho
    obtain ⟨cur, cap, h1, h2, h3, h4, h5, h6⟩ := h.obj id t z es s ho
    exact ⟨cur, cap, by rw [hb.block _ (h.own id _ ho).2]; exact h1, h2, h3, h4, RepC.mono hp (fun _ _ => rfl) (Nat.le_refl _) _ _ h5, h6⟩
  · intro id es ho
    obtain ⟨ents, clock, h1, h2⟩ := h.map id es ho
    refine ⟨ents, clock, by rw [hb.block _ (h.own id _ ho).2]; exact h1, ?_⟩
    exact RepM.mono hp (fun _ _ => rfl) (Nat.le_refl _) _ _ h2
theorem Ext.of_below {w w' : World} {B0 : Nat → Nat → Prop} {β : Nat → Nat} {n : Nat} {H : AH} (hb : RowKit.Below w.heap.size w w') : Ext w B0 β n H w' β n H where
  le := Nat.le_refl _
  agree := fun _ _ => rfl
  pres := Pres.old hb.block (fun _ _ _ h => h)
  size := hb.size
  os := hb.os
  tape := hb.tape
  output := hb.output
  block := fun k hk _ => hb.block k hk
  owner := fun id o h => .inl ⟨id, o, h, rfl⟩

/-- The function f on args, wherever there are no objects that it might know: it answers r; all memory is as it was. -/
def PCalls (P : Program) (f : FuncId) (args : List AV) (r : AV) : Prop :=
  fnOk P f = true ∧ ∀ w B0 β n cargs, (∀ b o, B0 b o → b < w.heap.size) → RepL w B0 β n args cargs →
    Calls P f cargs.toArray w fun e w' => ∃ v, e = .returned v ∧ RowKit.Below w.heap.size w w' ∧ RepV w' B0 β n r v

theorem Bad_lt {w : World} {B0 : Nat → Nat → Prop} {base : Nat} {β : Nat → Nat} {n : Nat} {H : AH} (h : HRep w B0 base β n H) (h0 : ∀ b o, B0 b o → b < base)
    (hb : base ≤ w.heap.size) : ∀ b o, Bad B0 β H b o → b < w.heap.size := by
  rintro b o (h1 | ⟨id, t, z, es, s, h1, rfl, _⟩)
  · exact Nat.lt_of_lt_of_le (h0 b o h1) hb
  · exact (h.own id _ h1).2

/-- A pure function, called where there are objects. -/
theorem PCalls.here {P : Program} {f : FuncId} {args : List AV} {r : AV} (h : PCalls P f args r) (H : AH) (n : Nat) :
    HCalls P f args H n fun r' H' n' => r' = r ∧ H' = H ∧ n' = n := by
  refine ⟨h.1, fun w B0 base β cargs h1 h2 h3 h4 => ?_⟩
  refine (h.2 w (Bad B0 β H) β n cargs (Bad_lt h3 h1 h2) h4).mono ?_
  rintro e w' ⟨v, rfl, hb, hv⟩
  exact ⟨β, n, H, r, v, rfl, Ext.of_below hb, h3.below hb, hv, rfl, rfl, rfl⟩

/-- What a function without objects of its caller's makes of its arguments is pure, if what it answers holds none of its own. -/
theorem PCalls.of_h {P : Program} {f : FuncId} {args : List AV} {r : AV}
    (h : ∀ n, HCalls P f args H0 n fun r' H' n' => ∀ w B0 base β' v, (∀ b o, B0 b o → b < base) → HRep w B0 base β' n' H' → RepV w (Bad B0 β' H') β' n' r' v → ∀ β, (∀ i, i < n → β' i = β i) → RepV w B0 β n r v) : PCalls P f args r := by
  refine ⟨(h 0).1, fun w B0 β n cargs h1 h2 => ?_⟩
  refine ((h n).2 w B0 w.heap.size β cargs h1 (Nat.le_refl _) (HRep_H0 _ _ _ _ _) (by rw [Bad_H0]; exact h2)).mono ?_
  rintro e w' ⟨β', n', H', r', v, rfl, k1, k2, k3, k4⟩
  refine ⟨v, rfl, ⟨k1.os, k1.tape, k1.output, k1.size, fun k hk => k1.block k hk (fun id o ho => by simp [H0] at ho)⟩, ?_⟩
  exact k4 w' B0 w.heap.size β' v h1 k2 k3 β k1.agree
end Go.Al

/- Live objects: an element read, a new object, a store, an append, a seal. -/
namespace Go.Al
section
variable {w w' : World} {B0 : Nat → Nat → Prop} {base : Nat} {β : Nat → Nat} {n : Nat} {H : AH}

theorem flat_get {α : Type} : ∀ {es : List (List α)} {z : Nat}, (∀ x ∈ es, x.length = z) → ∀ {i : Nat} {e : List α}, es[i]? = some e → (es.flatten.drop (i * z)).take z = e
  | [], z, _, i, e, h => by simp at h
  | x :: es, z, hz, i, e, h => by
    have hx : x.length = z := hz x (by simp)
    cases i with
    | zero =>
      simp at h
      subst h
      simp only [Nat.zero_mul, List.drop_zero, List.flatten_cons]
      rw [← hx]
      exact List.take_left
    | succ i =>
      have ih := flat_get (es := es) (fun y hy => hz y (List.mem_cons_of_mem _ hy)) (i := i) (e := e) (by simpa using h)
      rw [Nat.succ_mul, List.flatten_cons, show i * z + z = x.length + i * z by omega, ← List.drop_drop]
      rw [List.drop_left]
      exact ih
theorem flat_len {α : Type} : ∀ {es : List (List α)} {z : Nat}, (∀ x ∈ es, x.length = z) → es.flatten.length = es.length * z
  | [], z, _ => by simp
  | x :: es, z, hz => by
    have ih := flat_len (es := es) (fun y hy => hz y (List.mem_cons_of_mem _ hy))
    simp only [List.flatten_cons, List.length_append, ih, hz x (by simp), List.length_cons, Nat.succ_mul]
    omega
theorem flat_set {α : Type} : ∀ {es : List (List α)} {z : Nat}, (∀ x ∈ es, x.length = z) → ∀ {i : Nat} {e e' : List α}, es[i]? = some e → e'.length = z →
    (es.set i e').flatten = es.flatten.take (i * z) ++ e' ++ es.flatten.drop (i * z + z)
  | [], z, _, i, e, e', h, _ => by simp at h
  | x :: es, z, hz, i, e, e', h, he => by
    have hx : x.length = z := hz x (by simp)
    cases i with
    | zero =>
      simp only [List.set_cons_zero, List.flatten_cons, Nat.zero_mul, List.take_zero, List.nil_append, Nat.zero_add]
      rw [← hx, List.drop_left]
    | succ i =>
      have ih := flat_set (es := es) (fun y hy => hz y (List.mem_cons_of_mem _ hy)) (i := i) (e := e) (e' := e') (by simpa using h) he
      simp only [List.set_cons_succ, List.flatten_cons, ih]
      have e1 : (i + 1) * z = x.length + i * z := by rw [Nat.succ_mul]; omega
      rw [e1, List.take_length_add_append, Nat.add_assoc, List.drop_length_add_append]
      simp only [List.append_assoc]

theorem ObjOk.elem {B : Nat → Nat → Prop} {b t z : Nat} {es : List (List AV)} (h : ObjOk w B β n b t z es) {i : Nat} {e : List AV} (he : es[i]? = some e) :
    ∃ vs, RepC w B β n e vs ∧ ∀ j u, vs[j]? = some u → w.cell? ⟨b, i * z + j, none⟩ = some u := by
  obtain ⟨cur, cap, h1, h2, h3, h4, h5, h6⟩ := h
  have hi : i < es.length := (List.getElem?_eq_some_iff.1 he).1
  have hr := (h5.drop (i * z)).take z
  rw [flat_get h6 he] at hr
  refine ⟨_, hr, ?_⟩
  intro j u hu
  have hj : j < z := by
    have := (List.getElem?_eq_some_iff.1 hu).1
    simp only [List.length_take] at this
    omega
  have hle : i * z + j < es.length * z := by
    have : (i + 1) * z ≤ es.length * z := Nat.mul_le_mul_right z hi
    rw [Nat.succ_mul] at this
    omega
  rw [List.getElem?_take, if_pos hj, List.getElem?_drop, List.getElem?_take, if_pos hle] at hu
  simp only [World.cell?, h1]
  simpa using hu

/-- A new object, of any elements that are told in the world ahead of it. -/
theorem HRep.alloc_cap {t z cap : Nat} {es : List (List AV)} {s : Bool} {arr : Array Value} (h : HRep w B0 base β n H) (h0 : ∀ b o, B0 b o → b < base) (hbase : base ≤ w.heap.size)
    (hw : w'.heap = w.heap.push (.cells arr t (0, 0))) (hos : w'.os = w.os) (htp : w'.tape = w.tape) (hout : w'.output = w.output)
    (hc : RepC w (Bad B0 β H) β n es.flatten (arr.toList.take (es.length * z))) (hz : ∀ x ∈ es, x.length = z) (hl : es.length ≤ cap) (hm : cap ≤ maxLen) (hsize : arr.size = cap * z) :
    HRep w' B0 base (upd β n w.heap.size) (n + 1) (upd H n (some (.obj t z es s))) ∧
      Ext w B0 β n H w' (upd β n w.heap.size) (n + 1) (upd H n (some (.obj t z es s))) := by
  have hn : ∀ id o, H id = some o → id ≠ n := fun id o ho e => by have := h.dom id o ho; omega
  have hold : ∀ k, k < w.heap.size → w'.heap[k]? = w.heap[k]? := fun k hk => by rw [hw, Array.getElem?_push, if_neg (by omega)]
  have hsz : w'.heap.size = w.heap.size + 1 := by rw [hw]; simp
  have hagree : ∀ i, i < n → upd β n w.heap.size i = β i := fun i hi => upd_ne _ _ (by omega)
  have hbad : ∀ b o, b < w.heap.size → Bad B0 (upd β n w.heap.size) (upd H n (some (.obj t z es s))) b o → Bad B0 β H b o := by
    rintro b o hb (h1 | ⟨id, t', z', es', s', h1, h2, h3⟩)
    · exact .inl h1
    · by_cases e : id = n
      · subst e; rw [upd_same] at h2; omega
      · rw [upd_ne _ _ e] at h1 h2
        exact .inr ⟨id, t', z', es', s', h1, h2, h3⟩
  have hp : Pres w (Bad B0 β H) w' (Bad B0 (upd β n w.heap.size) (upd H n (some (.obj t z es s)))) := Pres.old hold (fun b o hb h1 => hbad b o hb h1)
  refine ⟨⟨?_, ?_, ?_, ?_, ?_⟩, ⟨by omega, hagree, hp, by omega, hos, htp, hout, fun k hk _ => hold k hk, ?_⟩⟩
  · intro id o ho
    by_cases e : id = n
    · omega
    · rw [upd_ne _ _ e] at ho; have := h.dom id o ho; omega
  · intro id o ho
    by_cases e : id = n
    · subst e; rw [upd_same]; omega
    · rw [upd_ne _ _ e] at ho ⊢; have := h.own id o ho; omega
  · intro i j o o' hi hj e
    by_cases e1 : i = n <;> by_cases e2 : j = n
    · omega
    · subst e1; rw [upd_ne _ _ e2] at hj e; rw [upd_same] at e; have := (h.own j o' hj).2; omega
    · subst e2; rw [upd_ne _ _ e1] at hi e; rw [upd_same] at e; have := (h.own i o hi).2; omega
    · rw [upd_ne _ _ e1] at hi e; rw [upd_ne _ _ e2] at hj e; exact h.inj i j o o' hi hj e
  · intro id t' z' es' s' ho
    by_cases e : id = n
    · subst e
      rw [upd_same] at ho ⊢
      simp only [Option.some.injEq, AO.obj.injEq] at ho
      obtain ⟨rfl, rfl, rfl, rfl⟩ := ho
      exact ⟨arr, cap, by rw [hw]; simp, hl, hm, hsize, hc.mono hp hagree (by omega), hz⟩
    · rw [upd_ne _ _ e] at ho ⊢
      obtain ⟨cur, cap, h1, h2, h3, h4, h5, h6⟩ := h.obj id t' z' es' s' ho
      exact ⟨cur, cap, by rw [hold _ (h.own id _ ho).2]; exact h1, h2, h3, h4, h5.mono hp hagree (by omega), h6⟩
  · intro id es' ho
    by_cases e : id = n
    · subst e; rw [upd_same] at ho; simp at ho
    · rw [upd_ne _ _ e] at ho ⊢
      obtain ⟨ents, clock, h1, h2⟩ := h.map id es' ho
      exact ⟨ents, clock, by rw [hold _ (h.own id _ ho).2]; exact h1, h2.mono hp hagree (by omega)⟩
  · intro id o ho
    by_cases e : id = n
    · subst e; rw [upd_same]; exact .inr (Nat.le_refl _)
    · rw [upd_ne _ _ e] at ho ⊢; exact .inl ⟨id, o, ho, rfl⟩

theorem HRep.alloc {t z : Nat} {es : List (List AV)} {s : Bool} {arr : Array Value} (h : HRep w B0 base β n H) (h0 : ∀ b o, B0 b o → b < base) (hbase : base ≤ w.heap.size)
    (hw : w'.heap = w.heap.push (.cells arr t (0, 0))) (hos : w'.os = w.os) (htp : w'.tape = w.tape) (hout : w'.output = w.output)
    (hc : RepC w (Bad B0 β H) β n es.flatten arr.toList) (hz : ∀ x ∈ es, x.length = z) (hm : es.length ≤ maxLen) :
    HRep w' B0 base (upd β n w.heap.size) (n + 1) (upd H n (some (.obj t z es s))) ∧
      Ext w B0 β n H w' (upd β n w.heap.size) (n + 1) (upd H n (some (.obj t z es s))) := by
  have hl := hc.len
  rw [flat_len hz, Array.length_toList] at hl
  exact HRep.alloc_cap h h0 hbase hw hos htp hout (by rw [List.take_of_length_le (by simp; omega)]; exact hc) hz (Nat.le_refl _) hm hl

/-- What lies behind an object's end may be written: it is a longer one then, under a new number. -/
theorem HRep.room {id t z : Nat} {es ys : List (List AV)} {s : Bool} {cur cur' : Array Value} {cap : Nat} (h : HRep w B0 base β n H) (h0 : ∀ b o, B0 b o → b < base)
    (hid : H id = some (.obj t z es s)) (hz : ∀ x ∈ es ++ ys, x.length = z) (hcur : w.heap[β id]? = some (.cells cur t (0, 0))) (hsize : cur'.size = cur.size)
    (hcap : cur.size = cap * z) (hfit : (es ++ ys).length ≤ cap) (hm : cap ≤ maxLen) (hold : ∀ o, o < es.length * z → cur'[o]? = cur[o]?)
    (hc : RepC w (Bad B0 β H) β n (es ++ ys).flatten (cur'.toList.take ((es ++ ys).length * z))) :
    HRep (w.setRow (β id) cur') B0 base (upd β n (β id)) (n + 1) (upd (upd H id none) n (some (.obj t z (es ++ ys) s))) ∧
      Ext w B0 β n H (w.setRow (β id) cur') (upd β n (β id)) (n + 1) (upd (upd H id none) n (some (.obj t z (es ++ ys) s))) := by
  have hidn : id < n := h.dom id _ hid
  have hagree : ∀ i, i < n → upd β n (β id) i = β i := fun i hi => upd_ne _ _ (by omega)
  have key : ∀ i o, upd (upd H id none) n (some (.obj t z (es ++ ys) s)) i = some o → (i = n ∧ o = .obj t z (es ++ ys) s) ∨ (i ≠ n ∧ i ≠ id ∧ i < n ∧ H i = some o) := fun i o ho => by
    by_cases e : i = n
    · subst e; rw [upd_same] at ho; simp only [Option.some.injEq] at ho; exact .inl ⟨rfl, ho.symm⟩
    · rw [upd_ne _ _ e] at ho
      by_cases e1 : i = id
      · subst e1; rw [upd_same] at ho; cases ho
      · rw [upd_ne _ _ e1] at ho; exact .inr ⟨e, e1, h.dom i o ho, ho⟩
  have hbad : ∀ b o, Bad B0 (upd β n (β id)) (upd (upd H id none) n (some (.obj t z (es ++ ys) s))) b o → Bad B0 β H b o := by
    rintro b o (h1 | ⟨i, t', z', es1, s', h1, h2, h3⟩)
    · exact .inl h1
    · rcases key i _ h1 with ⟨rfl, e⟩ | ⟨e1, e2, e3, e4⟩
      · simp only [AO.obj.injEq] at e
        obtain ⟨rfl, rfl, rfl, rfl⟩ := e
        rw [upd_same] at h2
        refine .inr ⟨id, _, _, es, _, hid, h2, h3.imp (fun h4 => h4) (fun h4 => ?_)⟩
        rw [List.length_append, Nat.add_mul] at h4
        omega
      · rw [hagree i e3] at h2
        exact .inr ⟨i, t', z', es1, s', e4, h2, h3⟩
  have hother : ∀ k, k ≠ β id → (w.setRow (β id) cur').heap[k]? = w.heap[k]? := fun k hk => setRow_other w _ k cur' hk
  have hnew := setRow_heap w (β id) cur cur' t (0, 0) hcur
  have hp : Pres w (Bad B0 β H) (w.setRow (β id) cur') (Bad B0 (upd β n (β id)) (upd (upd H id none) n (some (.obj t z (es ++ ys) s)))) := by
    refine ⟨fun b o u hu hnb => ⟨?_, fun hb => hnb (hbad b o hb)⟩, fun b o h1 => ?_⟩
    · by_cases e : b = β id
      · subst e
        have ho : o < es.length * z := by
          rcases Nat.lt_or_ge o (es.length * z) with h1 | h1
          · exact h1
          · exact absurd (.inr ⟨id, t, z, es, s, hid, rfl, .inr h1⟩) hnb
        simp only [World.cell?, hcur, hnew] at hu ⊢
        simp at hu ⊢
        rw [hold o ho]
        exact hu
      · rw [← hu]; exact World.cell?_of_block (hother b e)
    · by_cases e : b = β id
      · subst e
        simp only [World.cell?, hcur, hnew] at h1 ⊢
        simp at h1 ⊢
        omega
      · rw [World.cell?_of_block (hother b e)]; exact h1
  have hb : ∀ i o, H i = some o → i ≠ id → β i ≠ β id := fun i o hi hne e => hne (h.inj i id o _ hi hid e)
  refine ⟨⟨?_, ?_, ?_, ?_, ?_⟩, ⟨by omega, hagree, hp, by simp, rfl, rfl, rfl, fun k hk hne => hother k (fun e => hne id _ hid e.symm), ?_⟩⟩
  · intro i o ho; rcases key i o ho with ⟨rfl, _⟩ | ⟨_, _, h1, _⟩ <;> omega
  · intro i o ho
    simp only [setRow_size]
    rcases key i o ho with ⟨rfl, _⟩ | ⟨e1, e2, h1, h2⟩
    · rw [upd_same]; exact h.own id _ hid
    · rw [hagree i h1]; exact h.own i o h2
  · intro i j o o' hi hj e
    rcases key i o hi with ⟨rfl, _⟩ | ⟨e1, e2, h1, h2⟩ <;> rcases key j o' hj with ⟨rfl, _⟩ | ⟨e3, e4, h3, h4⟩
    · rfl
    · rw [upd_same, hagree j h3] at e; exact absurd e.symm (hb j o' h4 e4)
    · rw [upd_same, hagree i h1] at e; exact absurd e (hb i o h2 e2)
    · rw [hagree i h1, hagree j h3] at e; exact h.inj i j o o' h2 h4 e
  · intro i t' z' es1 s' ho
    rcases key i _ ho with ⟨rfl, e⟩ | ⟨e1, e2, h1, h2⟩
    · simp only [AO.obj.injEq] at e
      obtain ⟨rfl, rfl, rfl, rfl⟩ := e
      rw [upd_same]
      exact ⟨cur', cap, hnew, hfit, hm, by omega, hc.mono hp hagree (by omega), hz⟩
    · rw [hagree i h1]
      obtain ⟨cur2, cap2, g1, g2, g3, g4, g5, g6⟩ := h.obj i t' z' es1 s' h2
      exact ⟨cur2, cap2, by rw [hother _ (hb i _ h2 e2)]; exact g1, g2, g3, g4, g5.mono hp hagree (by omega), g6⟩
  · intro i es1 ho
    rcases key i _ ho with ⟨rfl, e⟩ | ⟨e1, e2, h1, h2⟩
    · cases e
    · rw [hagree i h1]
      obtain ⟨ents, clock, g1, g2⟩ := h.map i es1 h2
      exact ⟨ents, clock, by rw [hother _ (hb i _ h2 e2)]; exact g1, g2.mono hp hagree (by omega)⟩
  · intro i o ho
    rcases key i o ho with ⟨rfl, _⟩ | ⟨e1, e2, h1, h2⟩
    · rw [upd_same]; exact .inl ⟨id, _, hid, rfl⟩
    · rw [hagree i h1]; exact .inl ⟨i, o, h2, rfl⟩

/-- An open object's row is another one. -/
theorem HRep.store_to {id t z : Nat} {es es' : List (List AV)} {cur' : Array Value} (h : HRep w B0 base β n H) (h0 : ∀ b o, B0 b o → b < base)
    (hid : H id = some (.obj t z es false)) (hlen : ∀ cur cap, w.heap[β id]? = some (.cells cur t (0, 0)) → cur.size = cap * z → es.length ≤ cap → es'.length ≤ cap) (hz : ∀ x ∈ es', x.length = z)
    (hcur : ∀ cur, w.heap[β id]? = some (.cells cur t (0, 0)) → cur'.size = cur.size)
    (hc : RepC w (Bad B0 β H) β n es'.flatten (cur'.toList.take (es'.length * z))) :
    HRep (w.setRow (β id) cur') B0 base β n (upd H id (some (.obj t z es' false))) ∧
      Ext w B0 β n H (w.setRow (β id) cur') β n (upd H id (some (.obj t z es' false))) := by
  have hbad : ∀ b o, Bad B0 β (upd H id (some (.obj t z es' false))) b o → Bad B0 β H b o := by
    rintro b o (h1 | ⟨i, t', z', es1, s', h1, h2, h3⟩)
    · exact .inl h1
    · by_cases e : i = id
      · subst e; exact .inr ⟨i, t, z, es, false, hid, h2, .inl rfl⟩
      · rw [upd_ne _ _ e] at h1; exact .inr ⟨i, t', z', es1, s', h1, h2, h3⟩
  have hother : ∀ k, k ≠ β id → (w.setRow (β id) cur').heap[k]? = w.heap[k]? := fun k hk => setRow_other w _ k cur' hk
  have hp : Pres w (Bad B0 β H) (w.setRow (β id) cur') (Bad B0 β (upd H id (some (.obj t z es' false)))) := by
    refine ⟨fun b o u hu hnb => ⟨?_, fun hb => hnb (hbad b o hb)⟩, fun b o h1 => ?_⟩
    · rw [← hu]
      exact World.cell?_of_block (hother b (fun e => hnb (.inr ⟨id, t, z, es, false, hid, e.symm, .inl rfl⟩)))
    · by_cases e : b = β id
      · subst e
        obtain ⟨cur, cap, h2, _⟩ := h.obj id _ _ _ _ hid
        have h3 := setRow_heap w (β id) cur cur' t (0, 0) h2
        have h4 := hcur cur h2
        simp only [World.cell?, h2, h3] at h1 ⊢
        simp at h1 ⊢
        omega
      · rw [World.cell?_of_block (hother b e)]; exact h1
  have hb : ∀ i o, H i = some o → i ≠ id → β i ≠ β id := fun i o hi hne e => hne (h.inj i id o _ hi hid e)
  refine ⟨⟨?_, ?_, ?_, ?_, ?_⟩, ⟨Nat.le_refl _, fun _ _ => rfl, hp, by simp, rfl, rfl, rfl, fun k hk hne => hother k (fun e => hne id _ hid e.symm), ?_⟩⟩
  · intro i o ho
    by_cases e : i = id
    · subst e; exact h.dom i _ hid
    · rw [upd_ne _ _ e] at ho; exact h.dom i o ho
  · intro i o ho
    simp only [setRow_size]
    by_cases e : i = id
    · subst e; exact h.own i _ hid
    · rw [upd_ne _ _ e] at ho; exact h.own i o ho
  · intro i j o o' hi hj e
    have hi' : ∃ o, H i = some o := by
      by_cases e1 : i = id
      · subst e1; exact ⟨_, hid⟩
      · rw [upd_ne _ _ e1] at hi; exact ⟨_, hi⟩
    have hj' : ∃ o, H j = some o := by
      by_cases e1 : j = id
      · subst e1; exact ⟨_, hid⟩
      · rw [upd_ne _ _ e1] at hj; exact ⟨_, hj⟩
    obtain ⟨_, hi'⟩ := hi'
    obtain ⟨_, hj'⟩ := hj'
    exact h.inj i j _ _ hi' hj' e
  · intro i t' z' es1 s' ho
    by_cases e : i = id
    · subst e
      rw [upd_same] at ho
      simp only [Option.some.injEq, AO.obj.injEq] at ho
      obtain ⟨rfl, rfl, rfl, rfl⟩ := ho
      obtain ⟨cur, cap, h1, h2, h3, h4, h5, h6⟩ := h.obj i _ _ es _ hid
      exact ⟨cur', cap, setRow_heap w _ cur _ _ _ h1, hlen cur cap h1 h4 h2, h3, by rw [hcur cur h1]; exact h4, hc.mono hp (fun _ _ => rfl) (Nat.le_refl _), hz⟩
    · rw [upd_ne _ _ e] at ho
      obtain ⟨cur, cap, h1, h2, h3, h4, h5, h6⟩ := h.obj i t' z' es1 s' ho
      exact ⟨cur, cap, by rw [hother _ (hb i _ ho e)]; exact h1, h2, h3, h4, h5.mono hp (fun _ _ => rfl) (Nat.le_refl _), h6⟩
  · intro i es1 ho
    by_cases e : i = id
    · subst e; rw [upd_same] at ho; simp at ho
    · rw [upd_ne _ _ e] at ho
      obtain ⟨ents, clock, h1, h2⟩ := h.map i es1 ho
      exact ⟨ents, clock, by rw [hother _ (hb i _ ho e)]; exact h1, h2.mono hp (fun _ _ => rfl) (Nat.le_refl _)⟩
  · intro i o ho
    by_cases e : i = id
    · subst e; exact .inl ⟨i, _, hid, rfl⟩
    · rw [upd_ne _ _ e] at ho; exact .inl ⟨i, o, ho, rfl⟩

theorem HRep.store {id t z : Nat} {es es' : List (List AV)} {cur' : Array Value} (h : HRep w B0 base β n H) (h0 : ∀ b o, B0 b o → b < base)
    (hid : H id = some (.obj t z es false)) (hlen : es'.length = es.length) (hz : ∀ x ∈ es', x.length = z)
    (hcur : ∀ cur, w.heap[β id]? = some (.cells cur t (0, 0)) → cur'.size = cur.size)
    (hc : RepC w (Bad B0 β H) β n es'.flatten (cur'.toList.take (es'.length * z))) :
    HRep (w.setRow (β id) cur') B0 base β n (upd H id (some (.obj t z es' false))) ∧
      Ext w B0 β n H (w.setRow (β id) cur') β n (upd H id (some (.obj t z es' false))) :=
  h.store_to h0 hid (fun _ _ _ _ h => by omega) hz hcur hc

/-- An object sealed. -/
theorem HRep.shutO {id t z : Nat} {es : List (List AV)} {s : Bool} (h : HRep w B0 base β n H) (hid : H id = some (.obj t z es s)) :
    HRep w B0 base β n (upd H id (some (.obj t z es true))) ∧ Ext w B0 β n H w β n (upd H id (some (.obj t z es true))) := by
  have hbad : ∀ b o, Bad B0 β (upd H id (some (.obj t z es true))) b o → Bad B0 β H b o := by
    rintro b o (h1 | ⟨i, t', z', es1, s', h1, h2, h3⟩)
    · exact .inl h1
    · by_cases e : i = id
      · subst e
        rw [upd_same] at h1
        simp only [Option.some.injEq, AO.obj.injEq] at h1
        obtain ⟨rfl, rfl, rfl, rfl⟩ := h1
        refine .inr ⟨i, t, z, es, s, hid, h2, ?_⟩
        rcases h3 with h3 | h3
        · cases h3
        · exact .inr h3
      · rw [upd_ne _ _ e] at h1; exact .inr ⟨i, t', z', es1, s', h1, h2, h3⟩
  have hp : Pres w (Bad B0 β H) w (Bad B0 β (upd H id (some (.obj t z es true)))) := ⟨fun b o u hu hnb => ⟨hu, fun hb => hnb (hbad b o hb)⟩, fun _ _ h => h⟩
  have key : ∀ i o, upd H id (some (.obj t z es true)) i = some o → ∃ o', H i = some o' := fun i o ho => by
    by_cases e : i = id
    · subst e; exact ⟨_, hid⟩
    · rw [upd_ne _ _ e] at ho; exact ⟨o, ho⟩
  refine ⟨⟨?_, ?_, ?_, ?_, ?_⟩, ⟨Nat.le_refl _, fun _ _ => rfl, hp, Nat.le_refl _, rfl, rfl, rfl, fun _ _ _ => rfl, ?_⟩⟩
  · intro i o ho; obtain ⟨o', h1⟩ := key i o ho; exact h.dom i o' h1
  · intro i o ho; obtain ⟨o', h1⟩ := key i o ho; exact h.own i o' h1
  · intro i j o o' hi hj e
    obtain ⟨_, h1⟩ := key i o hi
    obtain ⟨_, h2⟩ := key j o' hj
    exact h.inj i j _ _ h1 h2 e
  · intro i t' z' es1 s' ho
    by_cases e : i = id
    · subst e
      rw [upd_same] at ho
      simp only [Option.some.injEq, AO.obj.injEq] at ho
      obtain ⟨rfl, rfl, rfl, rfl⟩ := ho
      obtain ⟨cur, cap, h1, h2, h3, h4, h5, h6⟩ := h.obj i _ _ es _ hid
      exact ⟨cur, cap, h1, h2, h3, h4, h5.mono hp (fun _ _ => rfl) (Nat.le_refl _), h6⟩
    · rw [upd_ne _ _ e] at ho
      obtain ⟨cur, cap, h1, h2, h3, h4, h5, h6⟩ := h.obj i t' z' es1 s' ho
      exact ⟨cur, cap, h1, h2, h3, h4, h5.mono hp (fun _ _ => rfl) (Nat.le_refl _), h6⟩
  · intro i es1 ho
    by_cases e : i = id
    · subst e; rw [upd_same] at ho; simp at ho
    · rw [upd_ne _ _ e] at ho
      obtain ⟨ents, clock, h1, h2⟩ := h.map i es1 ho
      exact ⟨ents, clock, h1, h2.mono hp (fun _ _ => rfl) (Nat.le_refl _)⟩
  · intro i o ho
    obtain ⟨o', h1⟩ := key i o ho
    exact .inl ⟨i, o', h1, rfl⟩

/-- An object is forgotten. -/
theorem HRep.drop {id : Nat} (h : HRep w B0 base β n H) : HRep w B0 base β n (upd H id none) ∧ Ext w B0 β n H w β n (upd H id none) := by
  have key : ∀ i o, upd H id none i = some o → i ≠ id ∧ H i = some o := fun i o ho => by
    by_cases e : i = id
    · subst e; rw [upd_same] at ho; cases ho
    · rw [upd_ne _ _ e] at ho; exact ⟨e, ho⟩
  have hbad : ∀ b o, Bad B0 β (upd H id none) b o → Bad B0 β H b o := by
    rintro b o (h1 | ⟨i, t', z', es1, s', h1, h2, h3⟩)
    · exact .inl h1
    · exact .inr ⟨i, t', z', es1, s', (key i _ h1).2, h2, h3⟩
  have hp : Pres w (Bad B0 β H) w (Bad B0 β (upd H id none)) := ⟨fun b o u hu hnb => ⟨hu, fun hb => hnb (hbad b o hb)⟩, fun _ _ h => h⟩
  refine ⟨⟨fun i o ho => h.dom i o (key i o ho).2, fun i o ho => h.own i o (key i o ho).2, fun i j o o' hi hj e => h.inj i j o o' (key i o hi).2 (key j o' hj).2 e, ?_, ?_⟩,
    ⟨Nat.le_refl _, fun _ _ => rfl, hp, Nat.le_refl _, rfl, rfl, rfl, fun _ _ _ => rfl, fun i o ho => .inl ⟨i, o, (key i o ho).2, rfl⟩⟩⟩
  · intro i t' z' es1 s' ho
    obtain ⟨cur, cap, h1, h2, h3, h4, h5, h6⟩ := h.obj i t' z' es1 s' (key i _ ho).2
    exact ⟨cur, cap, h1, h2, h3, h4, h5.mono hp (fun _ _ => rfl) (Nat.le_refl _), h6⟩
  · intro i es1 ho
    obtain ⟨ents, clock, h1, h2⟩ := h.map i es1 (key i _ ho).2
    exact ⟨ents, clock, h1, h2.mono hp (fun _ _ => rfl) (Nat.le_refl _)⟩
end
end Go.Al

/- What the operations do to abstract states. -/
namespace Go.Al

structure Ty where
  size : Nat
  bytes : Nat
  agg : Bool
  zero : Option (List Value)
def tyOf (P : Program) (t : TypeId) : Option Ty :=
  match P.info? t, P.underlying t with
  | some i, some d => some ⟨i.size, i.bytes, (match d with | .struct _ | .array _ _ => true | _ => false), i.zero.map fun v => v.cells.toList⟩
  | _, _ => none
def slOf (P : Program) (t : TypeId) : Option TypeId := match P.underlying t with | some (.slice e) => some e | _ => none
def stOf (P : Program) (t : TypeId) : Option (List (TypeId × Nat)) := match P.underlying t with | some (.struct fs) => some (fs.toList.map fun f => (f.type, f.offset)) | _ => none
def inOf (P : Program) (t : TypeId) : Option IntKind := match P.underlying t with | some (.int k) => some k | _ => none
def isBool (P : Program) (t : TypeId) : Bool := match P.underlying t with | some .bool => true | _ => false
def isPtr (P : Program) (t : TypeId) : Bool := match P.underlying t with | some (.pointer _) => true | _ => false
def arOf (P : Program) (t : TypeId) : Option (Nat × TypeId) := match P.underlying t with | some (.array n e) => some (n, e) | _ => none

def pureOf {α : Type} : Sem α → Option α
  | .pure a => some a
  | _ => none
theorem pureOf_run {α : Type} {s : Sem α} {a : α} (h : pureOf s = some a) (P : Program) (w : World) : s.run P w = .ok a w := by
  cases s <;> simp [pureOf] at h
  subst h
  rfl

/-- The cells of a value that may be stored. -/
def AV.cells : AV → Option (List AV)
  | .sc u => if u.oneCell' then some [.sc u] else none
  | .any => none
  | .tup _ => none
  | .agg cs => some cs
  | a => some [a]

/-- A value out of an element's cells. -/
def cellsAt (T : Ty) (e : List AV) (off : Nat) : Option AV :=
  if T.agg then (if off + T.size ≤ e.length then some (.agg ((e.drop off).take T.size)) else none) else e[off]?
/-- Cells put into an element's. -/
def splice (e : List AV) (off : Nat) (cs : List AV) : List AV := e.take off ++ cs ++ e.drop (off + cs.length)

def aload (P : Program) (H : AH) (t : TypeId) (v : AV) : Option AV :=
  (tyOf P t).bind fun T => match v with
    | .ptr id z i off => match H id with
      | some (.obj _ z' es _) => if z' = z then es[i]?.bind fun e => cellsAt T e off else none
      | _ => none
    | .fp cs => cellsAt T cs 0
    | _ => none
def astore (P : Program) (H : AH) (t : TypeId) (v x : AV) : Option AH :=
  (tyOf P t).bind fun T => x.cells.bind fun cs => match v with
    | .ptr id z i off => match H id with
      | some (.obj t' z' es false) => if z' = z ∧ cs.length = T.size ∧ off + T.size ≤ z then es[i]?.bind fun e => some (upd H id (some (.obj t' z (es.set i (splice e off cs)) false))) else none
      | _ => none
    | _ => none
/-- A struct or a row, filled: parts by their places. -/
def afill (place : Nat → Option (Nat × Nat)) (cells : List AV) : List (Nat × AV) → Option (List AV)
  | [] => some cells
  | (i, v) :: rest => (place i).bind fun p => v.cells.bind fun cs => if cs.length = p.2 ∧ p.1 + cs.length ≤ cells.length then afill place (splice cells p.1 cs) rest else none

section
variable {P : Program} {w : World} {B : Nat → Nat → Prop} {β : Nat → Nat} {n : Nat}
theorem tyOf_some {t : TypeId} {T : Ty} (h : tyOf P t = some T) : ∃ i d, P.info? t = some i ∧ P.underlying t = some d ∧ i.size = T.size ∧ i.bytes = T.bytes ∧
    (match d with | .struct _ | .array _ _ => true | _ => false) = T.agg ∧ i.zero.map (fun v => v.cells.toList) = T.zero := by
  unfold tyOf at h
  cases hi : P.info? t with
  | none => simp [hi] at h
  | some i =>
    cases hd : P.underlying t with
    | none => simp [hi, hd] at h
    | some d =>
      simp only [hi, hd, Option.some.injEq] at h
      subst h
      exact ⟨i, d, rfl, rfl, rfl, rfl, rfl, rfl⟩
theorem run_sizeOf_ {t : TypeId} {T : Ty} (h : tyOf P t = some T) (w : World) : (sizeOf t).run P w = .ok T.size w := by
  obtain ⟨i, d, h1, h2, h3, h4, h5, h6⟩ := tyOf_some h
  simp [sizeOf, typeInfo, h1, h3]
theorem run_isAgg_ {t : TypeId} {T : Ty} (h : tyOf P t = some T) (w : World) : (isAgg t).run P w = .ok T.agg w := by
  obtain ⟨i, d, h1, h2, h3, h4, h5, h6⟩ := tyOf_some h
  simp only [isAgg, Sem.run_bind, run_underlying h2, Result.andThen_ok]
  rw [← h5]
  cases d <;> rfl
theorem run_zero_ {t : TypeId} {T : Ty} (h : tyOf P t = some T) {zs : List Value} (hz : T.zero = some zs) (w : World) :
    ∃ z, (zeroValue t).run P w = .ok z w ∧ z.cells.toList = zs := by
  obtain ⟨i, d, h1, h2, h3, h4, h5, h6⟩ := tyOf_some h
  rw [hz] at h6
  cases hz' : i.zero with
  | none => simp [hz'] at h6
  | some z => exact ⟨z, by simp [zeroValue, typeInfo, h1, hz'], by simpa [hz'] using h6⟩

theorem AV.cells_rep {a : AV} {cs : List AV} {v : Value} (h : a.cells = some cs) (hr : RepV w B β n a v) : RepC w B β n cs v.cells.toList := by
  cases a with
  | sc u =>
    simp only [AV.cells] at h
    split at h <;> simp at h
    subst h
    simp only [RepV] at hr
    subst hr
    rename_i h1
    have : v.cells = #[v] := by cases v <;> first | rfl | simp [Value.oneCell'] at h1
    rw [this]
    simp only [RepC, RepV]
    exact ⟨v, [], rfl, rfl, h1, rfl⟩
  | any => simp [AV.cells] at h
  | tup vs => simp [AV.cells] at h
  | agg xs =>
    simp only [AV.cells, Option.some.injEq] at h
    subst h
    simp only [RepV] at hr
    obtain ⟨vs, rfl, h1⟩ := hr
    simpa [Value.cells] using h1
  | lst z es =>
    simp only [AV.cells, Option.some.injEq] at h
    subst h
    have h1 := hr
    simp only [RepV] at hr
    rcases hr with ⟨⟨a0, rfl⟩, _⟩ | ⟨b, o, c, rfl, _⟩ <;> (simp only [RepC, Value.cells]; exact ⟨_, [], rfl, h1, rfl, rfl⟩)
  | sl id z off m =>
    simp only [AV.cells, Option.some.injEq] at h
    subst h
    have h1 := hr
    simp only [RepV] at hr
    obtain ⟨_, c, o, rfl, _⟩ := hr
    simp only [RepC, Value.cells]
    exact ⟨_, [], rfl, h1, rfl, rfl⟩
  | ptr id z i off =>
    simp only [AV.cells, Option.some.injEq] at h
    subst h
    have h1 := hr
    simp only [RepV] at hr
    obtain ⟨_, rfl⟩ := hr
    simp only [RepC, Value.cells]
    exact ⟨_, [], rfl, h1, rfl, rfl⟩
  | fp xs =>
    simp only [AV.cells, Option.some.injEq] at h
    subst h
    have h1 := hr
    simp only [RepV] at hr
    obtain ⟨b, o, rfl, _⟩ := hr
    simp only [RepC, Value.cells]
    exact ⟨_, [], rfl, h1, rfl, rfl⟩
  | fn f xs =>
    simp only [AV.cells, Option.some.injEq] at h
    subst h
    have h1 := hr
    simp only [RepV] at hr
    obtain ⟨vs, rfl, _⟩ := hr
    simp only [RepC, Value.cells]
    exact ⟨_, [], rfl, h1, rfl, rfl⟩
  | mp id =>
    simp only [AV.cells, Option.some.injEq] at h
    subst h
    have h1 := hr
    simp only [RepV] at hr
    obtain ⟨_, rfl⟩ := hr
    simp only [RepC, Value.cells]
    exact ⟨_, [], rfl, h1, rfl, rfl⟩
  | slc id z off m c =>
    simp only [AV.cells, Option.some.injEq] at h
    subst h
    have h1 := hr
    simp only [RepV] at hr
    obtain ⟨_, rfl, _⟩ := hr
    simp only [RepC, Value.cells]
    exact ⟨_, [], rfl, h1, rfl, rfl⟩

/-- A variable read where its cells lie. -/
theorem run_loadVar_ {t : TypeId} {T : Ty} (hT : tyOf P t = some T) {e : List AV} {vs : List Value} {b o off : Nat} (hr : RepC w B β n e vs)
    (hc : ∀ j u, vs[j]? = some u → w.cell? ⟨b, o + j, none⟩ = some u) {x : AV} (hx : cellsAt T e off = some x) :
    ∃ u, (loadVar t ⟨b, o + off, none⟩).run P w = .ok u w ∧ RepV w B β n x u := by
  unfold cellsAt at hx
  by_cases hagg : T.agg = true
  · rw [if_pos hagg] at hx
    split at hx
    · rename_i hlen
      simp only [Option.some.injEq] at hx
      subst hx
      have hlv := hr.len
      have hrr := (hr.drop off).take T.size
      have hll : ((vs.drop off).take T.size).length = T.size := by simp; omega
      have hrun : (loadCells ⟨b, o + off, none⟩ ((vs.drop off).take T.size).length).run P w = .ok ((vs.drop off).take T.size).toArray w := by
        refine run_loadCells_list (P := P) w _ _ (fun j u hu => ?_)
        rw [Addr.add_lit, Nat.add_assoc]
        have hj : j < T.size := by have := (List.getElem?_eq_some_iff.1 hu).1; omega
        rw [List.getElem?_take, if_pos hj, List.getElem?_drop] at hu
        exact hc _ u hu
      rw [hll] at hrun
      refine ⟨.agg ((vs.drop off).take T.size).toArray, ?_, ?_⟩
      · simp [loadVar, run_isAgg_ hT, run_sizeOf_ hT, hagg, hrun]
      · simp only [RepV]; exact ⟨_, rfl, hrr⟩
    · cases hx
  · rw [if_neg hagg] at hx
    obtain ⟨u, hu, h1, _⟩ := hr.get off x hx
    have := hc off u hu
    have hagg' : T.agg = false := by simpa using hagg
    exact ⟨u, by simp [loadVar, run_isAgg_ hT, hagg', this], h1⟩
end
end Go.Al

/- One operation, told. -/
namespace Go.Al

def AV.int? : AV → Option Int
  | .sc (.int _ i) => some i
  | _ => none
/-- The elements (of z cells) that a slice has, as the objects now stand. -/
def elems (H : AH) (z : Nat) : AV → Option (List (List AV))
  | .sc (.slice none 0 0) => some []
  | .lst z' es => if z' = z then some es else none
  | .sl id z' off m => if z' = z then (match H id with
    | some (.obj _ z2 es _) => if z2 = z ∧ off + m ≤ es.length then some ((es.drop off).take m) else none
    | _ => none) else none
  | _ => none
def alen : AV → Option Nat
  | .sc (.slice none 0 0) => some 0
  | .lst _ es => some es.length
  | .sl _ _ _ m => some m
  | _ => none

def AS.bound (st : AS) : Option Operand → Nat → Option Int
  | none, d => some (d : Int)
  | some o, _ => (st.ev o).int?

/-- Two whole numbers. -/
def aint (op : BinOp) (k : IntKind) (x : Int) (k' : IntKind) (y : Int) : Option Value :=
  match op with
  | .shl => if 0 ≤ y then some (.int k (k.wrap (x * 2 ^ min y.toNat k.bits))) else none
  | .shr => if 0 ≤ y then some (.int k (x.fdiv (2 ^ min y.toNat k.bits))) else none
  | .add => if k = k' then some (.int k (k.wrap (x + y))) else none
  | .sub => if k = k' then some (.int k (k.wrap (x - y))) else none
  | .mul => if k = k' then some (.int k (k.wrap (x * y))) else none
  | .quo => if k = k' then (if y = 0 then none else some (.int k (k.wrap (x.tdiv y)))) else none
  | .rem => if k = k' then (if y = 0 then none else some (.int k (x.tmod y))) else none
  | .and => if k = k' then some (.int k (bits .and k x y)) else none
  | .or => if k = k' then some (.int k (bits .or k x y)) else none
  | .xor => if k = k' then some (.int k (bits .xor k x y)) else none
  | .andNot => none
  | .eql => if k = k' then some (.bool (decide (x = y))) else none
  | .neq => if k = k' then some (.bool (!decide (x = y))) else none
  | .lss => if k = k' then some (.bool (decide (x < y))) else none
  | .leq => if k = k' then some (.bool (decide (x ≤ y))) else none
  | .gtr => if k = k' then some (.bool (decide (x > y))) else none
  | .geq => if k = k' then some (.bool (decide (x ≥ y))) else none
theorem aint_pure {op : BinOp} {t : TypeId} {k k' : IntKind} {x y : Int} {v : Value} (h : aint op k x k' y = some v) : pureOf (binOp op t (.int k x) (.int k' y)) = some v := by
  unfold aint at h
  cases op <;> simp only at h <;> first | (cases h; done) | (split at h <;> first | (cases h; done) | skip)
  case shl => rename_i h0; cases h; simp [binOp, Op.shift, Int.not_lt.2 h0, pureOf]; rfl
  case shr => rename_i h0; cases h; simp [binOp, Op.shift, Int.not_lt.2 h0, pureOf]; rfl
  case quo => rename_i h0; subst h0; split at h; cases h; rename_i h1; cases h; simp [binOp, Op.intDiv, h1, pureOf]; rfl
  case rem => rename_i h0; subst h0; split at h; cases h; rename_i h1; cases h; simp [binOp, Op.intDiv, h1, pureOf]; rfl
  all_goals (rename_i h0; subst h0; cases h; simp [binOp, Op.intArith, Op.intBits, Op.intCmp, pureOf]; first | rfl | done)

/-- Two values that can be told apart without the world. -/
def abin (P : Program) (op : BinOp) (t : TypeId) : AV → AV → Option Value
  | .sc (.int k x), .sc (.int k' y) => aint op k x k' y
  | .sc (.bool x), .sc (.bool y) => if isBool P t then (match op with | .eql => some (.bool (x == y)) | .neq => some (.bool (x != y)) | _ => none) else none
  | .ptr _ _ _ _, .sc (.pointer none) => if isPtr P t then (match op with | .eql => some (.bool false) | .neq => some (.bool true) | _ => none) else none
  | .fp _, .sc (.pointer none) => if isPtr P t then (match op with | .eql => some (.bool false) | .neq => some (.bool true) | _ => none) else none
  | .sc (.pointer none), .sc (.pointer none) => if isPtr P t then (match op with | .eql => some (.bool true) | .neq => some (.bool false) | _ => none) else none
  | _, _ => none

/-- What an operation that calls nothing makes of a state: a value, the objects, and how many there were. -/
def aop (P : Program) (st : AS) : Op → Option (AV × AH × Nat)
  | .move x | .assign x => some (st.ev x, st.H, st.n)
  | .pick c a b => match st.ev c with
    | .sc (.bool t) => some (if t then st.ev a else st.ev b, st.H, st.n)
    | _ => none
  | .alloc t => (tyOf P t).bind fun T => T.zero.bind fun z => if z.length = T.size ∧ z.all (·.oneCell') then
      some (.ptr st.n T.size 0 0, upd st.H st.n (some (.obj t T.size [z.map .sc] false)), st.n + 1) else none
  | .box t x => (st.ev x).cells.bind fun cs => some (.ptr st.n cs.length 0 0, upd st.H st.n (some (.obj t cs.length [cs] false)), st.n + 1)
  | .build t parts => (stOf P t).bind fun fs => (tyOf P t).bind fun T => T.zero.bind fun z => if z.all (·.oneCell') then
      (fs.mapM fun f => (tyOf P f.1).map fun F => (f.2, F.size)).bind fun pl =>
      (afill (fun i => pl[i]?) (z.map .sc) (parts.toList.map fun p => (p.1, st.ev p.2))).bind fun cs => some (.agg cs, st.H, st.n) else none
  | .load t a => (aload P st.H t (st.ev a)).bind fun v => some (v, st.H, st.n)
  | .store t a x => (astore P st.H t (st.ev a) (st.ev x)).bind fun H => some (.any, H, st.n)
  | .nilCheck x => match st.ev x with
    | .ptr id z i off => some (.ptr id z i off, st.H, st.n)
    | .fp cs => some (.fp cs, st.H, st.n)
    | _ => none
  | .binOp op t x y _ => (abin P op t (st.ev x) (st.ev y)).bind fun v => some (.sc v, st.H, st.n)
  | .unOp op _ x => match st.ev x with
    | .sc u => (pureOf (Op.unary op u)).bind fun v => some (.sc v, st.H, st.n)
    | _ => none
  | .convert src dst x => match st.ev x, inOf P src, inOf P dst with
    | .sc (.int _ n), some _, some k => some (.sc (.int k (k.wrap n)), st.H, st.n)
    | _, _, _ => none
  | .makeFunc (.func f) first captured => if first = #[] then some (.fn f (captured.toList.map st.ev), st.H, st.n) else none
  | .fieldAddr s x f => (stOf P s).bind fun fs => fs[f]?.bind fun p => (tyOf P p.1).bind fun F => if F.size = 0 then none else match st.ev x with
    | .ptr id z i off => some (.ptr id z i (off + p.2), st.H, st.n)
    | .fp cs => some (.fp (cs.drop p.2), st.H, st.n)
    | _ => none
  | .field s x f => (stOf P s).bind fun fs => fs[f]?.bind fun p => (tyOf P p.1).bind fun F => match st.ev x with
    | .agg cs => (cellsAt F cs p.2).bind fun v => some (v, st.H, st.n)
    | _ => none
  | .indexAddr t x ix => (slOf P t).bind fun e => (tyOf P e).bind fun T => (st.ev ix).int?.bind fun i => match st.ev x with
    | .lst z es => if z = T.size then (if 0 ≤ i then es[i.toNat]?.bind fun c => some (.fp c, st.H, st.n) else none) else none
    | .sl id z off m => if z = T.size ∧ 0 ≤ i ∧ i < m then some (.ptr id z (off + i.toNat) 0, st.H, st.n) else none
    | _ => none
  | .index t x ix => (arOf P t).bind fun a => (tyOf P a.2).bind fun T => (st.ev ix).int?.bind fun i => match st.ev x with
    | .agg cs => if 0 ≤ i ∧ i < a.1 then (cellsAt T cs (i.toNat * T.size)).bind fun v => some (v, st.H, st.n) else none
    | _ => none
  | .slice t x lo hi mx => if mx.isSome then none else match st.ev x with
    | .slc id z off m k => (slOf P t).bind fun e => (tyOf P e).bind fun T => (st.bound lo 0).bind fun l => (st.bound hi m).bind fun h =>
      if 0 ≤ l ∧ l ≤ h ∧ h ≤ k ∧ z = T.size then some (if l.toNat = k then .slc id z off 0 0 else .slc id z (off + l.toNat) (h.toNat - l.toNat) (k - l.toNat), st.H, st.n) else none
    | _ => (slOf P t).bind fun e => (tyOf P e).bind fun T => (alen (st.ev x)).bind fun len =>
      (st.bound lo 0).bind fun l => (st.bound hi len).bind fun h =>
      if 0 ≤ l ∧ l ≤ h ∧ h ≤ len then (match st.ev x with
        | .lst z es => if z = T.size then some (.lst z ((es.drop l.toNat).take (h.toNat - l.toNat)), st.H, st.n) else none
        | .sl id z off m => if z = T.size then some (.sl id z (off + l.toNat) (h.toNat - l.toNat), st.H, st.n) else none
        | .sc (.slice none 0 0) => some (.sc (.slice none 0 0), st.H, st.n)
        | _ => none) else none
  | .extract x i => match st.ev x with
    | .tup vs => vs[i]?.bind fun v => some (v, st.H, st.n)
    | _ => none
  | .buildSlice t len parts => (slOf P t).bind fun e => (tyOf P e).bind fun T => T.zero.bind fun z => if z.length = T.size ∧ z.all (·.oneCell') ∧ len * T.size ≤ 16777216 ∧ 0 < T.size then
      (afill (fun i => some (i * T.size, T.size)) (List.replicate len (z.map AV.sc)).flatten (parts.toList.map fun p => (p.1, st.ev p.2))).bind fun cs =>
        some (.sl st.n T.size 0 len, upd st.H st.n (some (.obj e T.size ((List.range len).map fun i => (cs.drop (i * T.size)).take T.size) false)), st.n + 1) else none
  | .makeSlice t l c => (slOf P t).bind fun e => (tyOf P e).bind fun T => T.zero.bind fun z => (st.ev l).int?.bind fun n => (st.ev c).int?.bind fun m =>
      if z.length = T.size ∧ z.all (·.oneCell') ∧ 0 < T.size ∧ n = m ∧ 0 ≤ n ∧ n * T.bytes ≤ 140737488355328 ∧ n ≤ 1099511627776 then
        some (.sl st.n T.size 0 n.toNat, upd st.H st.n (some (.obj e T.size (List.replicate n.toNat (z.map AV.sc)) false)), st.n + 1) else none
  | .call c => match c.callee with
    | .builtin .len => match c.args.toList.map st.ev, c.argTypes.toList with
      | [x], [t] => (slOf P t).bind fun _ => (alen x).bind fun m => some (.sc (.int .i64 m), st.H, st.n)
      | _, _ => none
    | .builtin .max => match c.args.toList.map st.ev with
      | [.sc (.int k x), .sc (.int k' y)] => some (.sc (.int k (if y > x then y else x)), st.H, st.n)
      | _ => none
    | .builtin .min => match c.args.toList.map st.ev with
      | [.sc (.int k x), .sc (.int k' y)] => some (.sc (.int k (if y < x then y else x)), st.H, st.n)
      | _ => none
    | .builtin .append => match c.args.toList.map st.ev, c.argTypes.toList with
      | [x, y], [t, t'] => if t = t' then (slOf P t).bind fun e => (tyOf P e).bind fun T => T.zero.bind fun z => (elems st.H T.size y).bind fun ys =>
          if z.length = T.size ∧ 0 < T.size then (match x with
          | .sc (.slice none 0 0) => (match ys with
            | [] => some (.sc (.slice none 0 0), st.H, st.n)
            | y0 :: r => if (r.length + 1) * T.bytes ≤ 140737488355328 ∧ (r.length + 1) ≤ 1099511627776 then some (.sl st.n T.size 0 (r.length + 1), upd st.H st.n (some (.obj e T.size (y0 :: r) false)), st.n + 1) else none)
          | .sl id zz off m => (match st.H id with
            | some (.obj e' z' es s) => if e' = e ∧ z' = T.size ∧ zz = T.size ∧ off = 0 ∧ m = es.length ∧ (m + ys.length) * T.bytes ≤ 140737488355328 ∧ m + ys.length ≤ 1099511627776 then
                some (.sl st.n T.size 0 (m + ys.length), upd (upd st.H id none) st.n (some (.obj e T.size (es ++ ys) s)), st.n + 1) else none
            | _ => none)
          | _ => none) else none else none
      | _, _ => none
    | _ => none
  | _ => none
end Go.Al

/- Each operation does to the world what is told of it. -/
namespace Go.Al
section
variable {P : Program} {N : Nat} {a : Act} {w : World} {B0 : Nat → Nat → Prop} {base : Nat} {β : Nat → Nat} {st : AS}

theorem Inv.ev (h : Inv N a w B0 base β st) (x : Operand) : RepV w (Bad B0 β st.H) β st.n (st.ev x) (a.eval x) := by
  cases x with
  | tmp t => exact h.tmps t
  | const v => simp only [AS.ev, RepV]; rfl
  | global g => simp only [AS.ev, RepV]; rfl
  | func f => simp only [AS.ev, RepV]; exact ⟨[], rfl, by simp only [RepL]⟩

def Done (P : Program) (o : Oper) (a : Act) (w : World) (B0 : Nat → Nat → Prop) (base : Nat) (β : Nat → Nat) (st : AS) (v : AV) (H' : AH) (n' : Nat) : Prop :=
  ∃ w' β' u, ((execOp a.eval o).run P w = .ok (.value u) w' ∨ ((execOp a.eval o).run P w = .ok .skip w' ∧ u = undef)) ∧ HRep w' B0 base β' n' H' ∧
    Ext w B0 β st.n st.H w' β' n' H' ∧ RepV w' (Bad B0 β' H') β' n' v u

theorem Done.quiet {o : Oper} {v : AV} {u : Value} (h : Inv N a w B0 base β st) (hr : (execOp a.eval o).run P w = .ok (.value u) w) (hv : RepV w (Bad B0 β st.H) β st.n v u) :
    Done P o a w B0 base β st v st.H st.n := ⟨w, β, u, .inl hr, h.heap, Ext.refl _ _ _ _ _, hv⟩

theorem some3 {v v' : AV} {H H' : AH} {n n' : Nat} (h : some (v, H, n) = some (v', H', n')) : v = v' ∧ H = H' ∧ n = n' := by
  simp only [Option.some.injEq, Prod.mk.injEq] at h
  exact h

theorem done_move {o : Oper} {x : Operand} {v : AV} {H' : AH} {n' : Nat} (hi : Inv N a w B0 base β st) (ho : o.op = .move x ∨ o.op = .assign x)
    (h : some (st.ev x, st.H, st.n) = some (v, H', n')) : Done P o a w B0 base β st v H' n' := by
  obtain ⟨rfl, rfl, rfl⟩ := some3 h
  refine Done.quiet hi (u := a.eval x) ?_ (hi.ev x)
  rcases ho with ho | ho <;> simp [execOp, ho]

theorem done_pick {o : Oper} {c x y : Operand} {v : AV} {H' : AH} {n' : Nat} (hi : Inv N a w B0 base β st) (ho : o.op = .pick c x y)
    (h : aop P st (.pick c x y) = some (v, H', n')) : Done P o a w B0 base β st v H' n' := by
  simp only [aop] at h
  split at h
  · rename_i t hc
    obtain ⟨rfl, rfl, rfl⟩ := some3 h
    have h1 := hi.ev c
    rw [hc] at h1
    simp only [RepV] at h1
    refine Done.quiet hi (u := if t then a.eval x else a.eval y) ?_ ?_
    · cases t <;> simp [execOp, ho, h1, asBool]
    · cases t <;> simp [hi.ev]
  · cases h

theorem done_load {o : Oper} {t : TypeId} {x : Operand} {v : AV} {H' : AH} {n' : Nat} (hi : Inv N a w B0 base β st) (ho : o.op = .load t x)
    (h : aop P st (.load t x) = some (v, H', n')) : Done P o a w B0 base β st v H' n' := by
  simp only [aop, aload] at h
  cases hT : tyOf P t with
  | none => simp [hT] at h
  | some T =>
    simp only [hT, Option.bind_some] at h
    have hx := hi.ev x
    cases hv : st.ev x <;> simp only [hv, Option.bind_none] at h <;> try (cases h; done)
    case ptr id z i off =>
      rw [hv] at hx
      simp only [RepV] at hx
      cases hH : st.H id with
      | none => simp [hH] at h
      | some ob =>
        cases ob with
        | map es => simp [hH] at h
        | obj t' z' es s =>
          simp only [hH] at h
          split at h
          · rename_i hz
            subst hz
            cases he : es[i]? with
            | none => simp [he] at h
            | some e =>
              simp only [he, Option.bind_some] at h
              cases hc : cellsAt T e off with
              | none => simp [hc] at h
              | some u =>
                simp only [hc, Option.bind_some] at h
                obtain ⟨rfl, rfl, rfl⟩ := some3 h
                obtain ⟨vs, h1, h2⟩ := (hi.heap.obj id t' z' es s hH).elem he
                obtain ⟨r, h3, h4⟩ := run_loadVar_ hT h1 h2 hc
                refine Done.quiet hi (u := r) ?_ h4
                simp [execOp, ho, Instr.loadAt, Instr.sureAddr, hx.2, h3]
          · simp at h
    case fp cs =>
      rw [hv] at hx
      simp only [RepV] at hx
      obtain ⟨b, p, hp, hf⟩ := hx
      cases hc : cellsAt T cs 0 with
      | none => simp [hc] at h
      | some u =>
        simp only [hc, Option.bind_some] at h
        obtain ⟨rfl, rfl, rfl⟩ := some3 h
        obtain ⟨vs, h1, h2⟩ := hf.cells
        obtain ⟨r, h3, h4⟩ := run_loadVar_ hT h1 h2 hc
        refine Done.quiet hi (u := r) ?_ h4
        rw [Nat.add_zero] at h3
        simp [execOp, ho, Instr.loadAt, Instr.sureAddr, hp, h3]

theorem done_store {o : Oper} {t : TypeId} {x y : Operand} {v : AV} {H' : AH} {n' : Nat} (hi : Inv N a w B0 base β st) (ho : o.op = .store t x y)
    (h : aop P st (.store t x y) = some (v, H', n')) : Done P o a w B0 base β st v H' n' := by
  simp only [aop, astore] at h
  cases hT : tyOf P t with
  | none => simp [hT] at h
  | some T =>
    simp only [hT, Option.bind_some] at h
    cases hc : (st.ev y).cells with
    | none => simp [hc] at h
    | some cs =>
      simp only [hc, Option.bind_some] at h
      have hx := hi.ev x
      have hy := AV.cells_rep hc (hi.ev y)
      cases hv : st.ev x <;> simp only [hv, Option.bind_none] at h <;> try (cases h; done)
      case ptr id z i off =>
        rw [hv] at hx
        simp only [RepV] at hx
        cases hH : st.H id with
        | none => simp [hH] at h
        | some ob =>
          cases ob with
          | map es => simp [hH] at h
          | obj t' z' es s =>
            cases s with
            | true => simp [hH] at h
            | false =>
              simp only [hH] at h
              split at h
              · rename_i hcond
                obtain ⟨rfl, hcs, hoff⟩ := hcond
                cases he : es[i]? with
                | none => simp [he] at h
                | some e =>
                  simp only [he, Option.bind_some] at h
                  obtain ⟨rfl, rfl, rfl⟩ := some3 h
                  obtain ⟨cur, cap, h1, h2, h3, h4, h5, h6⟩ := hi.heap.obj id t' z' es false hH
                  have hel : e.length = z' := h6 e (List.mem_of_getElem? he)
                  have hil : i < es.length := (List.getElem?_eq_some_iff.1 he).1
                  have hmul : (i + 1) * z' ≤ es.length * z' := Nat.mul_le_mul_right _ hil
                  have hmul2 : es.length * z' ≤ cap * z' := Nat.mul_le_mul_right _ h2
                  rw [Nat.succ_mul] at hmul
                  have hvl := hy.len
                  have hone := hy.one
                  have hst := run_storeCells_at P (β id) (i * z' + off) t' (a.eval y).cells.toList 0 cur w h1 (by rw [hvl]; omega) hone
                  simp only [Nat.add_zero] at hst
                  generalize hvs : (a.eval y).cells.toList = vs at hst hy hvl
                  have hsp : (splice e off cs).length = z' := by simp [splice]; omega
                  have hfl := flat_set h6 he hsp
                  have hnew : RepC w (Bad B0 β st.H) β st.n (es.set i (splice e off cs)).flatten
                      ((cur.toList.take (i * z' + off) ++ vs ++ cur.toList.drop (i * z' + off + vs.length)).toArray.toList.take ((es.set i (splice e off cs)).length * z')) := by
                    have hflat : (es.set i (splice e off cs)).flatten = es.flatten.take (i * z' + off) ++ cs ++ es.flatten.drop (i * z' + off + cs.length) := by
                      rw [hfl]
                      have hg := flat_get h6 he
                      unfold splice
                      rw [← hg]
                      have hfll := flat_len h6
                      apply List.ext_getElem?
                      intro j
                      simp only [List.getElem?_append, List.getElem?_take, List.getElem?_drop, List.length_append, List.length_take, List.length_drop, hfll]
                      repeat' split
                      all_goals first | rfl | omega | (congr 1; omega) | skip
                    rw [hflat]
                    have e1 : (cur.toList.take (i * z' + off) ++ vs ++ cur.toList.drop (i * z' + off + vs.length)).toArray.toList.take ((es.set i (splice e off cs)).length * z') =
                        (cur.toList.take (es.length * z')).take (i * z' + off) ++ vs ++ (cur.toList.take (es.length * z')).drop (i * z' + off + vs.length) := by
                      apply List.ext_getElem?
                      intro j
                      simp only [List.getElem?_append, List.getElem?_take, List.getElem?_drop, List.length_append, List.length_take, List.length_drop, Array.length_toList, List.length_set, h4]
                      repeat' split
                      all_goals first | rfl | omega | (congr 1; omega) | skip
                    rw [e1]
                    have := ((h5.take (i * z' + off)).append hy).append (h5.drop (i * z' + off + cs.length))
                    rw [hvl]
                    exact this
                  obtain ⟨k1, k2⟩ := hi.heap.store (cur' := (cur.toList.take (i * z' + off) ++ vs ++ cur.toList.drop (i * z' + off + vs.length)).toArray) hi.b0 hH (es' := es.set i (splice e off cs)) (by simp)
                    (by
                      intro x hx
                      rcases List.mem_or_eq_of_mem_set hx with hx | rfl
                      · exact h6 x hx
                      · exact hsp)
                    (by intro cur2 hc2; rw [h1] at hc2; cases hc2; simp; omega) hnew
                  refine ⟨_, β, undef, .inr ⟨?_, rfl⟩, k1, k2, by simp only [RepV]⟩
                  have hsz : (a.eval y).cells.size = T.size := by rw [← Array.length_toList, hvs, hvl, hcs]
                  have hsv : (storeVar t ⟨β id, i * z' + off, none⟩ (a.eval y)).run P w = .ok () (w.setRow (β id) (cur.toList.take (i * z' + off) ++ vs ++ cur.toList.drop (i * z' + off + vs.length)).toArray) := by
                    simp only [storeVar, Sem.run_bind, run_sizeOf_ hT, Result.andThen_ok, hsz, ne_eq, not_true_eq_false, if_false, hvs, hst, Sem.run_pure]
                  simp [execOp, ho, Instr.storeAt, Instr.sureAddr, hx.2, hsv]
              · simp at h
end
end Go.Al

/- Each operation does to the world what is told of it, continued: what makes memory, and what only tells. -/
namespace Go.Al
section
variable {P : Program} {N : Nat} {a : Act} {w : World} {B0 : Nat → Nat → Prop} {base : Nat} {β : Nat → Nat} {st : AS}

theorem RepC_sc {B : Nat → Nat → Prop} {n : Nat} : ∀ {zs : List Value}, zs.all (·.oneCell') = true → RepC w B β n (zs.map AV.sc) zs
  | [], _ => by simp only [List.map_nil, RepC]
  | z :: zs, h => by
    simp only [List.all_cons, Bool.and_eq_true] at h
    simp only [List.map_cons, RepC, RepV]
    exact ⟨z, zs, rfl, rfl, h.1, RepC_sc h.2⟩

/-- A new object, at the end of the heap. -/
theorem Done.alloc {o : Oper} {t z : Nat} {es : List (List AV)} {arr : Array Value} {v : AV} {u : Value} (hi : Inv N a w B0 base β st)
    (hr : (execOp a.eval o).run P w = .ok (.value u) { w with heap := w.heap.push (.cells arr t) })
    (hc : RepC w (Bad B0 β st.H) β st.n es.flatten arr.toList) (hz : ∀ x ∈ es, x.length = z) (hm : es.length ≤ maxLen)
    (hv : RepV { w with heap := w.heap.push (.cells arr t) } (Bad B0 (upd β st.n w.heap.size) (upd st.H st.n (some (.obj t z es false)))) (upd β st.n w.heap.size) (st.n + 1) v u) :
    Done P o a w B0 base β st v (upd st.H st.n (some (.obj t z es false))) (st.n + 1) := by
  obtain ⟨k1, k2⟩ := hi.heap.alloc (w' := { w with heap := w.heap.push (.cells arr t) }) (s := false) hi.b0 hi.base rfl rfl rfl rfl hc hz hm
  exact ⟨_, _, u, .inl hr, k1, k2, hv⟩

theorem done_alloc {o : Oper} {t : TypeId} {v : AV} {H' : AH} {n' : Nat} (hi : Inv N a w B0 base β st) (ho : o.op = .alloc t)
    (h : aop P st (.alloc t) = some (v, H', n')) : Done P o a w B0 base β st v H' n' := by
  simp only [aop] at h
  cases hT : tyOf P t with
  | none => simp [hT] at h
  | some T =>
    cases hz : T.zero with
    | none => simp [hT, hz] at h
    | some zs =>
      simp only [hT, hz, Option.bind_some] at h
      split at h
      · rename_i hc
        obtain ⟨rfl, rfl, rfl⟩ := some3 h
        obtain ⟨zv, hz1, hz2⟩ := run_zero_ hT hz w
        refine Done.alloc hi (arr := zv.cells) (u := .pointer (some ⟨w.heap.size, 0, none⟩)) ?_ ?_ ?_ ?_ ?_
        · simp [execOp, ho, Instr.alloc, hz1, newVar, newRow, newObj, Sem.run]
        · simp only [List.flatten_cons, List.flatten_nil, List.append_nil, hz2]; exact RepC_sc hc.2
        · simp [hc.1]
        · simp [maxLen]
        · simp only [RepV, upd_same]; exact ⟨by omega, by simp⟩
      · cases h

theorem done_box {o : Oper} {t : TypeId} {x : Operand} {v : AV} {H' : AH} {n' : Nat} (hi : Inv N a w B0 base β st) (ho : o.op = .box t x)
    (h : aop P st (.box t x) = some (v, H', n')) : Done P o a w B0 base β st v H' n' := by
  simp only [aop] at h
  cases hc : (st.ev x).cells with
  | none => simp [hc] at h
  | some cs =>
    simp only [hc, Option.bind_some] at h
    obtain ⟨rfl, rfl, rfl⟩ := some3 h
    have hy := AV.cells_rep hc (hi.ev x)
    refine Done.alloc hi (arr := (a.eval x).cells) (u := .pointer (some ⟨w.heap.size, 0, none⟩)) ?_ ?_ ?_ ?_ ?_
    · simp [execOp, ho, Instr.box, newVar, newRow, newObj, Sem.run]
    · simpa only [List.flatten_cons, List.flatten_nil, List.append_nil] using hy
    · simp
    · simp [maxLen]
    · simp only [RepV, upd_same]; exact ⟨by omega, by simp⟩

theorem done_nilCheck {o : Oper} {x : Operand} {v : AV} {H' : AH} {n' : Nat} (hi : Inv N a w B0 base β st) (ho : o.op = .nilCheck x)
    (h : aop P st (.nilCheck x) = some (v, H', n')) : Done P o a w B0 base β st v H' n' := by
  simp only [aop] at h
  split at h
  · rename_i id z i off hv
    obtain ⟨rfl, rfl, rfl⟩ := some3 h
    have h1 := hi.ev x
    rw [hv] at h1
    have h2 := h1
    simp only [RepV] at h1
    refine Done.quiet hi (u := a.eval x) ?_ h2
    simp [execOp, ho, h1.2]
  · rename_i cs hv
    obtain ⟨rfl, rfl, rfl⟩ := some3 h
    have h1 := hi.ev x
    rw [hv] at h1
    have h2 := h1
    simp only [RepV] at h1
    obtain ⟨fb, fo, h1, _⟩ := h1
    refine Done.quiet hi (u := a.eval x) ?_ h2
    simp [execOp, ho, h1]
  · cases h

theorem run_eqGuard_other {op : BinOp} {t : TypeId} {x y : Operand} {u v : Value} (h : match u, v with | .nilIface, .nilIface => False | .agg _, .agg _ => False | _, _ => True) (w : World) :
    (eqGuard op t x y u v).run P w = .ok () w := by
  unfold eqGuard
  split <;> (cases u <;> cases v <;> simp_all)

theorem run_equalIn_bool (d : Nat) {t : TypeId} (x y : Bool) (hu : P.underlying t = some .bool) (w : World) : (Op.equalIn (d + 1) t (.bool x) (.bool y)).run P w = .ok (x == y) w := by
  simp only [Op.equalIn, Sem.run_bind, run_underlying hu, Result.andThen_ok]
  rfl
theorem run_equalIn_ptr (d : Nat) {t e : TypeId} (x : Option Addr) (hu : P.underlying t = some (.pointer e)) (w : World) : (Op.equalIn (d + 1) t (.pointer x) (.pointer none)).run P w = .ok x.isNone w := by
  simp only [Op.equalIn, Sem.run_bind, run_underlying hu, Result.andThen_ok]
  cases x <;> rfl
theorem run_equal_bool {t : TypeId} (x y : Bool) (hu : P.underlying t = some .bool) (w : World) : (Op.equal t (.bool x) (.bool y)).run P w = .ok (x == y) w :=
  run_equalIn_bool 9999 x y hu w
theorem run_equal_ptr {t e : TypeId} (x : Option Addr) (hu : P.underlying t = some (.pointer e)) (w : World) : (Op.equal t (.pointer x) (.pointer none)).run P w = .ok x.isNone w :=
  run_equalIn_ptr 9999 x hu w

theorem done_bin {o : Oper} {op : BinOp} {t t' : TypeId} {x y : Operand} {v : AV} {H' : AH} {n' : Nat} (hi : Inv N a w B0 base β st) (ho : o.op = .binOp op t x y t')
    (h : aop P st (.binOp op t x y t') = some (v, H', n')) : Done P o a w B0 base β st v H' n' := by
  simp only [aop] at h
  have hx := hi.ev x
  have hy := hi.ev y
  cases hb : abin P op t (st.ev x) (st.ev y) with
  | none => simp [hb] at h
  | some u =>
    simp only [hb, Option.bind_some] at h
    obtain ⟨rfl, rfl, rfl⟩ := some3 h
    suffices hs : (do eqGuard op t x y (a.eval x) (a.eval y); binOp op t (a.eval x) (a.eval y)).run P w = .ok u w by
      refine Done.quiet hi (u := u) ?_ (by simp only [RepV])
      simp only [Sem.run_bind] at hs
      simp only [execOp, ho, Sem.run_bind, hs, Result.andThen_ok, Sem.run_pure]
    unfold abin at hb
    split at hb
    · rename_i k p k' q e1 e2
      rw [e1] at hx; rw [e2] at hy
      simp only [RepV] at hx hy
      rw [hx, hy]
      simp only [Sem.run_bind, run_eqGuard_other (P := P) (u := .int k p) (v := .int k' q) trivial w, Result.andThen_ok]
      exact pureOf_run (aint_pure hb) P w
    · rename_i p q e1 e2
      rw [e1] at hx; rw [e2] at hy
      simp only [RepV] at hx hy
      rw [hx, hy]
      split at hb
      · rename_i ht
        have hu : P.underlying t = some .bool := by
          unfold isBool at ht
          split at ht
          · rename_i hu; exact hu
          · cases ht
        simp only [Sem.run_bind, run_eqGuard_other (P := P) (u := .bool p) (v := .bool q) trivial w, Result.andThen_ok]
        split at hb
        · cases hb; simp only [binOp, Sem.run_bind, run_equal_bool _ _ hu, Result.andThen_ok, Sem.run_pure]
        · cases hb; simp only [binOp, Sem.run_bind, run_equal_bool _ _ hu, Result.andThen_ok, Sem.run_pure]; rfl
        · cases hb
      · cases hb
    · rename_i id z i off e1 e2
      rw [e1] at hx; rw [e2] at hy
      simp only [RepV] at hx hy
      rw [hx.2, hy]
      split at hb
      · rename_i ht
        obtain ⟨e, hu⟩ : ∃ e, P.underlying t = some (.pointer e) := by
          unfold isPtr at ht
          split at ht
          · rename_i e hu; exact ⟨e, hu⟩
          · cases ht
        simp only [Sem.run_bind, run_eqGuard_other (P := P) (u := .pointer (some ⟨β id, i * z + off, none⟩)) (v := .pointer none) trivial w, Result.andThen_ok]
        split at hb
        · cases hb; simp only [binOp, Sem.run_bind, run_equal_ptr _ hu, Result.andThen_ok, Sem.run_pure]; rfl
        · cases hb; simp only [binOp, Sem.run_bind, run_equal_ptr _ hu, Result.andThen_ok, Sem.run_pure]; rfl
        · cases hb
      · cases hb
    · rename_i fcs e1 e2
      rw [e1] at hx; rw [e2] at hy
      simp only [RepV] at hx hy
      obtain ⟨fb, fo, hx, _⟩ := hx
      rw [hx, hy]
      split at hb
      · rename_i ht
        obtain ⟨e, hu⟩ : ∃ e, P.underlying t = some (.pointer e) := by
          unfold isPtr at ht
          split at ht
          · rename_i e hu; exact ⟨e, hu⟩
          · cases ht
        simp only [Sem.run_bind, run_eqGuard_other (P := P) (u := .pointer (some ⟨fb, fo, none⟩)) (v := .pointer none) trivial w, Result.andThen_ok]
        split at hb
        · cases hb; simp only [binOp, Sem.run_bind, run_equal_ptr _ hu, Result.andThen_ok, Sem.run_pure]; rfl
        · cases hb; simp only [binOp, Sem.run_bind, run_equal_ptr _ hu, Result.andThen_ok, Sem.run_pure]; rfl
        · cases hb
      · cases hb
    · rename_i e1 e2
      rw [e1] at hx; rw [e2] at hy
      simp only [RepV] at hx hy
      rw [hx, hy]
      split at hb
      · rename_i ht
        obtain ⟨e, hu⟩ : ∃ e, P.underlying t = some (.pointer e) := by
          unfold isPtr at ht
          split at ht
          · rename_i e hu; exact ⟨e, hu⟩
          · cases ht
        simp only [Sem.run_bind, run_eqGuard_other (P := P) (u := .pointer none) (v := .pointer none) trivial w, Result.andThen_ok]
        split at hb
        · cases hb; simp only [binOp, Sem.run_bind, run_equal_ptr _ hu, Result.andThen_ok, Sem.run_pure]; rfl
        · cases hb; simp only [binOp, Sem.run_bind, run_equal_ptr _ hu, Result.andThen_ok, Sem.run_pure]; rfl
        · cases hb
      · cases hb
    · cases hb

theorem done_un {o : Oper} {op : UnOp} {t : TypeId} {x : Operand} {v : AV} {H' : AH} {n' : Nat} (hi : Inv N a w B0 base β st) (ho : o.op = .unOp op t x)
    (h : aop P st (.unOp op t x) = some (v, H', n')) : Done P o a w B0 base β st v H' n' := by
  simp only [aop] at h
  split at h
  · rename_i u hv
    have hx := hi.ev x
    rw [hv] at hx
    simp only [RepV] at hx
    cases hp : pureOf (Op.unary op u) with
    | none => simp [hp] at h
    | some r =>
      simp only [hp, Option.bind_some] at h
      obtain ⟨rfl, rfl, rfl⟩ := some3 h
      refine Done.quiet hi (u := r) ?_ (by simp only [RepV])
      have := pureOf_run hp P w
      simp [execOp, ho, hx, this]
  · cases h

theorem done_convert {o : Oper} {s d : TypeId} {x : Operand} {v : AV} {H' : AH} {n' : Nat} (hi : Inv N a w B0 base β st) (ho : o.op = .convert s d x)
    (h : aop P st (.convert s d x) = some (v, H', n')) : Done P o a w B0 base β st v H' n' := by
  simp only [aop] at h
  split at h
  · rename_i k0 n k1 k hv h1 h2
    obtain ⟨rfl, rfl, rfl⟩ := some3 h
    have hx := hi.ev x
    rw [hv] at hx
    simp only [RepV] at hx
    have u1 : P.underlying s = some (.int k1) := by
      unfold inOf at h1
      split at h1
      · rename_i hu; cases h1; exact hu
      · cases h1
    have u2 : P.underlying d = some (.int k) := by
      unfold inOf at h2
      split at h2
      · rename_i hu; cases h2; exact hu
      · cases h2
    refine Done.quiet hi (u := .int k (k.wrap n)) ?_ (by simp only [RepV])
    simp [execOp, ho, hx, convert, run_underlying u1, run_underlying u2, Conv.intToInt]
  · cases h

theorem RepL_ev (hi : Inv N a w B0 base β st) : ∀ (l : List Operand), RepL w (Bad B0 β st.H) β st.n (l.map st.ev) (l.map a.eval)
  | [] => by simp only [List.map_nil, RepL]
  | x :: l => by
    simp only [List.map_cons, RepL]
    exact ⟨_, _, rfl, hi.ev x, RepL_ev hi l⟩

theorem done_makeFunc {o : Oper} {f : FuncId} {first captured : Array Operand} {v : AV} {H' : AH} {n' : Nat} (hi : Inv N a w B0 base β st) (ho : o.op = .makeFunc (.func f) first captured)
    (h : aop P st (.makeFunc (.func f) first captured) = some (v, H', n')) : Done P o a w B0 base β st v H' n' := by
  simp only [aop] at h
  split at h
  · rename_i hf
    obtain ⟨rfl, rfl, rfl⟩ := some3 h
    subst hf
    refine Done.quiet hi (u := .func (.func f) #[] (captured.map a.eval)) ?_ ?_
    · simp [execOp, ho, Instr.makeFunc]
    · simp only [RepV]
      exact ⟨captured.toList.map a.eval, by rw [← List.map_toArray], RepL_ev hi _⟩
  · cases h

theorem done_extract {o : Oper} {x : Operand} {i : Nat} {v : AV} {H' : AH} {n' : Nat} (hi : Inv N a w B0 base β st) (ho : o.op = .extract x i)
    (h : aop P st (.extract x i) = some (v, H', n')) : Done P o a w B0 base β st v H' n' := by
  simp only [aop] at h
  split at h
  · rename_i vs hv
    have hx := hi.ev x
    rw [hv] at hx
    simp only [RepV] at hx
    obtain ⟨us, hu, hl⟩ := hx
    cases hg : vs[i]? with
    | none => simp [hg] at h
    | some c =>
      simp only [hg, Option.bind_some] at h
      obtain ⟨rfl, rfl, rfl⟩ := some3 h
      obtain ⟨u, h1, h2⟩ := hl.get i _ hg
      refine Done.quiet hi (u := u) ?_ h2
      simp [execOp, ho, hu, Instr.extract, h1]
  · cases h
end
end Go.Al

/- Each operation does to the world what is told of it: places, slices, fields. -/
namespace Go.Al
section
variable {P : Program} {N : Nat} {a : Act} {w : World} {B0 : Nat → Nat → Prop} {base : Nat} {β : Nat → Nat} {st : AS}

theorem stOf_some {t : TypeId} {fs : List (TypeId × Nat)} (h : stOf P t = some fs) : ∃ F, P.underlying t = some (.struct F) ∧ fs = F.toList.map fun f => (f.type, f.offset) := by
  unfold stOf at h
  split at h
  · rename_i F hu; cases h; exact ⟨F, hu, rfl⟩
  · cases h
theorem slOf_some {t e : TypeId} (h : slOf P t = some e) : P.underlying t = some (.slice e) := by
  unfold slOf at h
  split at h
  · rename_i hu; cases h; exact hu
  · cases h
theorem arOf_some {t : TypeId} {p : Nat × TypeId} (h : arOf P t = some p) : P.underlying t = some (.array p.1 p.2) := by
  unfold arOf at h
  split at h
  · rename_i hu; cases h; exact hu
  · cases h
theorem int?_some {v : AV} {i : Int} (h : v.int? = some i) : ∃ k, v = .sc (.int k i) := by
  unfold AV.int? at h
  split at h
  · rename_i k j; cases h; exact ⟨k, rfl⟩
  · cases h

theorem run_part_ {t : TypeId} {T : Ty} (hT : tyOf P t = some T) {B : Nat → Nat → Prop} {n : Nat} {e : List AV} {vs : List Value} {off : Nat} (hr : RepC w B β n e vs) {x : AV} (hx : cellsAt T e off = some x) :
    ∃ u, (part t vs.toArray off).run P w = .ok u w ∧ RepV w B β n x u := by
  unfold cellsAt at hx
  by_cases hagg : T.agg = true
  · rw [if_pos hagg] at hx
    split at hx
    · rename_i hlen
      simp only [Option.some.injEq] at hx
      subst hx
      refine ⟨.agg ((vs.drop off).take T.size).toArray, ?_, ?_⟩
      · simp [part, run_isAgg_ hT, run_sizeOf_ hT, hagg, List.extract_eq_take_drop]
      · simp only [RepV]; exact ⟨_, rfl, (hr.drop off).take T.size⟩
    · cases hx
  · rw [if_neg hagg] at hx
    obtain ⟨u, hu, h1, _⟩ := hr.get off x hx
    have hagg' : T.agg = false := by simpa using hagg
    exact ⟨u, by simp [part, run_isAgg_ hT, hagg', hu], h1⟩

theorem done_fieldAddr {o : Oper} {s : TypeId} {x : Operand} {f : Nat} {v : AV} {H' : AH} {n' : Nat} (hi : Inv N a w B0 base β st) (ho : o.op = .fieldAddr s x f)
    (h : aop P st (.fieldAddr s x f) = some (v, H', n')) : Done P o a w B0 base β st v H' n' := by
  simp only [aop] at h
  cases hs : stOf P s with
  | none => simp [hs] at h
  | some fs =>
    obtain ⟨F, hu, hfs⟩ := stOf_some hs
    simp only [hs, Option.bind_some] at h
    cases hf : fs[f]? with
    | none => simp [hf] at h
    | some p =>
      simp only [hf, Option.bind_some] at h
      rw [hfs, List.getElem?_map] at hf
      cases hF : F.toList[f]? with
      | none => simp [hF] at hf
      | some fld =>
        simp only [hF, Option.map_some, Option.some.injEq] at hf
        subst hf
        cases hT : tyOf P fld.type with
        | none => simp [hT] at h
        | some T =>
          simp only [hT, Option.bind_some] at h
          split at h
          · cases h
          · rename_i hsz
            have hx := hi.ev x
            have hF' : F[f]? = some fld := by rw [← Array.getElem?_toList]; exact hF
            split at h
            · rename_i id z i off hv
              obtain ⟨rfl, rfl, rfl⟩ := some3 h
              rw [hv] at hx
              simp only [RepV] at hx
              refine Done.quiet hi (u := .pointer (some ⟨β id, i * z + off + fld.offset, none⟩)) ?_ ?_
              · simp [execOp, ho, Instr.fieldAt, run_underlying hu, hF', Instr.sureAddr, hx.2, fieldPlace, run_sizeOf_ hT, hsz, Addr.add_lit]
              · simp only [RepV]; exact ⟨hx.1, by rw [Nat.add_assoc]⟩
            · rename_i cs hv
              obtain ⟨rfl, rfl, rfl⟩ := some3 h
              rw [hv] at hx
              simp only [RepV] at hx
              obtain ⟨b, q, hp, hf⟩ := hx
              refine Done.quiet hi (u := .pointer (some ⟨b, q + fld.offset, none⟩)) ?_ ?_
              · simp [execOp, ho, Instr.fieldAt, run_underlying hu, hF', Instr.sureAddr, hp, fieldPlace, run_sizeOf_ hT, hsz, Addr.add_lit]
              · simp only [RepV]; exact ⟨b, _, rfl, hf.drop _⟩
            · cases h

theorem done_field {o : Oper} {s : TypeId} {x : Operand} {f : Nat} {v : AV} {H' : AH} {n' : Nat} (hi : Inv N a w B0 base β st) (ho : o.op = .field s x f)
    (h : aop P st (.field s x f) = some (v, H', n')) : Done P o a w B0 base β st v H' n' := by
  simp only [aop] at h
  cases hs : stOf P s with
  | none => simp [hs] at h
  | some fs =>
    obtain ⟨F, hu, hfs⟩ := stOf_some hs
    simp only [hs, Option.bind_some] at h
    cases hf : fs[f]? with
    | none => simp [hf] at h
    | some p =>
      simp only [hf, Option.bind_some] at h
      rw [hfs, List.getElem?_map] at hf
      cases hF : F.toList[f]? with
      | none => simp [hF] at hf
      | some fld =>
        simp only [hF, Option.map_some, Option.some.injEq] at hf
        subst hf
        cases hT : tyOf P fld.type with
        | none => simp [hT] at h
        | some T =>
          simp only [hT, Option.bind_some] at h
          have hx := hi.ev x
          have hF' : F[f]? = some fld := by rw [← Array.getElem?_toList]; exact hF
          split at h
          · rename_i cs hv
            rw [hv] at hx
            simp only [RepV] at hx
            obtain ⟨vs, hp, hc⟩ := hx
            cases hca : cellsAt T cs fld.offset with
            | none => simp [hca] at h
            | some r =>
              simp only [hca, Option.bind_some] at h
              obtain ⟨rfl, rfl, rfl⟩ := some3 h
              obtain ⟨u, h1, h2⟩ := run_part_ hT hc hca
              refine Done.quiet hi (u := u) ?_ h2
              simp [execOp, ho, Instr.field, run_underlying hu, hF', asAgg, hp, h1]
          · cases h

theorem done_indexAddr {o : Oper} {t : TypeId} {x ix : Operand} {v : AV} {H' : AH} {n' : Nat} (hi : Inv N a w B0 base β st) (ho : o.op = .indexAddr t x ix)
    (h : aop P st (.indexAddr t x ix) = some (v, H', n')) : Done P o a w B0 base β st v H' n' := by
  simp only [aop] at h
  cases hs : slOf P t with
  | none => simp [hs] at h
  | some e =>
    have hu := slOf_some hs
    simp only [hs, Option.bind_some] at h
    cases hT : tyOf P e with
    | none => simp [hT] at h
    | some T =>
      simp only [hT, Option.bind_some] at h
      cases hix : (st.ev ix).int? with
      | none => simp [hix] at h
      | some i =>
        obtain ⟨k, hk⟩ := int?_some hix
        simp only [hix, Option.bind_some] at h
        have hx := hi.ev x
        have hy := hi.ev ix
        rw [hk] at hy
        simp only [RepV] at hy
        split at h
        · rename_i z es hv
          rw [hv] at hx
          split at h
          · rename_i hz
            subst hz
            split at h
            · rename_i h0
              cases he : es[i.toNat]? with
              | none => simp [he] at h
              | some c =>
                simp only [he, Option.bind_some] at h
                obtain ⟨rfl, rfl, rfl⟩ := some3 h
                have hlt : i.toNat < es.length := (List.getElem?_eq_some_iff.1 he).1
                simp only [RepV] at hx
                rcases hx with ⟨_, rfl⟩ | ⟨b, q, cc, hp, hcc, hes⟩
                · simp at he
                · obtain ⟨h1, h2⟩ := hes.get _ _ he
                  refine Done.quiet hi (u := .pointer (some ⟨b, q + i.toNat * T.size, none⟩)) ?_ ?_
                  · have h3 : i < (es.length : Int) := by omega
                    simp [execOp, ho, Instr.indexAt, hy, asIntOf, run_underlying hu, hp, h0, h3, run_sizeOf_ hT, Addr.add_lit]
                  · simp only [RepV]; exact ⟨b, _, rfl, h2⟩
            · cases h
          · cases h
        · rename_i id z off m hv
          rw [hv] at hx
          split at h
          · rename_i hc
            obtain ⟨rfl, h0, h1⟩ := hc
            obtain ⟨rfl, rfl, rfl⟩ := some3 h
            simp only [RepV] at hx
            obtain ⟨hid, cc, q, hp, hcc, hq, _⟩ := hx
            have hq' : q = off * T.size := hq (.inl (by omega))
            subst hq'
            refine Done.quiet hi (u := .pointer (some ⟨β id, off * T.size + i.toNat * T.size, none⟩)) ?_ ?_
            · simp [execOp, ho, Instr.indexAt, hy, asIntOf, run_underlying hu, hp, h0, h1, run_sizeOf_ hT, Addr.add_lit]
            · simp only [RepV]; exact ⟨hid, by rw [Nat.add_mul]; simp⟩
          · cases h
        · cases h

theorem done_index {o : Oper} {t : TypeId} {x ix : Operand} {v : AV} {H' : AH} {n' : Nat} (hi : Inv N a w B0 base β st) (ho : o.op = .index t x ix)
    (h : aop P st (.index t x ix) = some (v, H', n')) : Done P o a w B0 base β st v H' n' := by
  simp only [aop] at h
  cases hs : arOf P t with
  | none => simp [hs] at h
  | some p =>
    have hu := arOf_some hs
    simp only [hs, Option.bind_some] at h
    cases hT : tyOf P p.2 with
    | none => simp [hT] at h
    | some T =>
      simp only [hT, Option.bind_some] at h
      cases hix : (st.ev ix).int? with
      | none => simp [hix] at h
      | some i =>
        obtain ⟨k, hk⟩ := int?_some hix
        simp only [hix, Option.bind_some] at h
        have hx := hi.ev x
        have hy := hi.ev ix
        rw [hk] at hy
        simp only [RepV] at hy
        split at h
        · rename_i cs hv
          rw [hv] at hx
          simp only [RepV] at hx
          obtain ⟨vs, hp, hc⟩ := hx
          split at h
          · rename_i h0
            cases hca : cellsAt T cs (i.toNat * T.size) with
            | none => simp [hca] at h
            | some r =>
              simp only [hca, Option.bind_some] at h
              obtain ⟨rfl, rfl, rfl⟩ := some3 h
              obtain ⟨u, h1, h2⟩ := run_part_ hT hc hca
              refine Done.quiet hi (u := u) ?_ h2
              simp [execOp, ho, Instr.index, hy, asIntOf, run_underlying hu, hp, h0, run_sizeOf_ hT, h1]
          · cases h
        · cases h

theorem alen_some {v : AV} {len : Nat} {u : Value} {B : Nat → Nat → Prop} {n : Nat} (h : alen v = some len) (hr : RepV w B β n v u) : ∃ A c, u = .slice A len c ∧ len ≤ c := by
  unfold alen at h
  split at h
  · cases h; simp only [RepV] at hr; exact ⟨none, 0, hr, Nat.le_refl _⟩
  · cases h
    simp only [RepV] at hr
    rcases hr with ⟨⟨a0, rfl⟩, rfl⟩ | ⟨b, q, c, rfl, h1, _⟩
    · exact ⟨a0, 0, rfl, Nat.le_refl _⟩
    · exact ⟨_, c, rfl, h1⟩
  · cases h
    simp only [RepV] at hr
    obtain ⟨_, c, q, rfl, h1, _⟩ := hr
    exact ⟨_, c, rfl, h1⟩
  · cases h

theorem run_bound {st : AS} (hi : Inv N a w B0 base β st) {x : Operand} {d : Nat} {l : Int} {y : Nat} {code : BoundsCode} (h : st.bound (some x) d = some l) (h0 : 0 ≤ l) (h1 : l ≤ y) :
    (Instr.sliceBound (a.eval x) y code).run P w = .ok l.toNat w := by
  simp only [AS.bound] at h
  obtain ⟨k, hk⟩ := int?_some h
  have hy := hi.ev x
  rw [hk] at hy
  simp only [RepV] at hy
  simp [Instr.sliceBound, hy, asIntOf, h0, h1]
theorem run_bounds {st : AS} (hi : Inv N a w B0 base β st) {lo hh : Option Operand} {l q : Int} {len c : Nat} (hl : st.bound lo 0 = some l) (hq : st.bound hh len = some q)
    (h0 : 0 ≤ l) (h1 : l ≤ q) (h2 : q ≤ len) (h3 : len ≤ c) : (Instr.sliceBounds true len c (lo.map a.eval) (hh.map a.eval) none).run P w = .ok (l.toNat, q.toNat, c) w := by
  have g : ∀ (y : Nat) (code : BoundsCode) x, lo = some x → l ≤ y → (Instr.sliceBound (a.eval x) y code).run P w = .ok l.toNat w := fun y code x e h => by
    subst e; exact run_bound hi hl h0 h
  have g' : ∀ (code : BoundsCode) x, hh = some x → (Instr.sliceBound (a.eval x) c code).run P w = .ok q.toNat w := fun code x e => by
    subst e; exact run_bound hi hq (by omega) (by omega)
  cases lo with
  | none =>
    simp only [AS.bound, Option.some.injEq] at hl
    subst hl
    cases hh with
    | none =>
      simp only [AS.bound, Option.some.injEq] at hq
      subst hq
      simp [Instr.sliceBounds]
    | some y => simp [Instr.sliceBounds, g' _ y rfl]
  | some x =>
    cases hh with
    | none =>
      simp only [AS.bound, Option.some.injEq] at hq
      subst hq
      simp [Instr.sliceBounds, g len _ x rfl (by omega)]
    | some y => simp [Instr.sliceBounds, g' _ y rfl, g q.toNat _ x rfl (by omega)]

theorem run_bounds_cap (hi : Inv N a w B0 base β st) {lo hh : Option Operand} {l q : Int} {len c : Nat} (hl : st.bound lo 0 = some l) (hq : st.bound hh len = some q)
    (h0 : 0 ≤ l) (h1 : l ≤ q) (h2 : q ≤ c) : (Instr.sliceBounds true len c (lo.map a.eval) (hh.map a.eval) none).run P w = .ok (l.toNat, q.toNat, c) w := by
  have g : ∀ (y : Nat) (code : BoundsCode) x, lo = some x → l ≤ y → (Instr.sliceBound (a.eval x) y code).run P w = .ok l.toNat w := fun y code x e h => by
    subst e; exact run_bound hi hl h0 h
  have g' : ∀ (code : BoundsCode) x, hh = some x → (Instr.sliceBound (a.eval x) c code).run P w = .ok q.toNat w := fun code x e => by
    subst e; exact run_bound hi hq (by omega) (by omega)
  cases lo with
  | none =>
    simp only [AS.bound, Option.some.injEq] at hl
    subst hl
    cases hh with
    | none =>
      simp only [AS.bound, Option.some.injEq] at hq
      subst hq
      simp [Instr.sliceBounds]
    | some y => simp [Instr.sliceBounds, g' _ y rfl]
  | some x =>
    cases hh with
    | none =>
      simp only [AS.bound, Option.some.injEq] at hq
      subst hq
      simp [Instr.sliceBounds, g len _ x rfl (by omega)]
    | some y => simp [Instr.sliceBounds, g' _ y rfl, g q.toNat _ x rfl (by omega)]
theorem done_slice {o : Oper} {t : TypeId} {x : Operand} {lo hh mx : Option Operand} {v : AV} {H' : AH} {n' : Nat} (hi : Inv N a w B0 base β st) (ho : o.op = .slice t x lo hh mx)
    (h : aop P st (.slice t x lo hh mx) = some (v, H', n')) : Done P o a w B0 base β st v H' n' := by
  simp only [aop] at h
  split at h
  · cases h
  · rename_i hmx
    have hmx' : mx = none := by cases mx <;> simp_all
    subst hmx'
    split at h
    · rename_i id z off m k hv
      cases hs : slOf P t with
      | none => simp [hs] at h
      | some e =>
        have hu := slOf_some hs
        simp only [hs, Option.bind_some] at h
        cases hT : tyOf P e with
        | none => simp [hT] at h
        | some T =>
          simp only [hT, Option.bind_some] at h
          cases hl : st.bound lo 0 with
          | none => simp [hl] at h
          | some l =>
            simp only [hl, Option.bind_some] at h
            cases hhi : st.bound hh m with
            | none => simp [hhi] at h
            | some q =>
              simp only [hhi, Option.bind_some] at h
              split at h
              · rename_i hb
                obtain ⟨h0, h1, h2, hz⟩ := hb
                subst hz
                obtain ⟨rfl, rfl, rfl⟩ := some3 h
                have hr := hi.ev x
                rw [hv] at hr
                simp only [RepV] at hr
                obtain ⟨r1, r2, r3, r4, r5⟩ := hr
                have hsb := run_bounds_cap (P := P) (len := m) (c := k) hi hl hhi h0 h1 h2
                have hsl : (Instr.slice t (.slice (some ⟨β id, off * T.size, none⟩) m k) (lo.map a.eval) (hh.map a.eval) none).run P w = .ok (.slice (if k = l.toNat then some ⟨β id, off * T.size, none⟩ else (some ⟨β id, off * T.size, none⟩ : Option Addr).map (·.add (l.toNat * T.size))) (q.toNat - l.toNat) (k - l.toNat)) w := by
                  simp only [Instr.slice, Sem.run_bind, run_underlying hu, Result.andThen_ok, hsb, run_sizeOf_ hT, Sem.run_pure]
                refine Done.quiet hi (u := .slice (if k = l.toNat then some ⟨β id, off * T.size, none⟩ else (some ⟨β id, off * T.size, none⟩ : Option Addr).map (·.add (l.toNat * T.size))) (q.toNat - l.toNat) (k - l.toNat)) ?_ ?_
                · simp only [execOp, ho, Instr.sliceAt, Option.map_none, Sem.run_bind, run_underlying hu, Result.andThen_ok, r2, hsl, Sem.run_pure]
                · by_cases hk : l.toNat = k
                  · have e1 : q.toNat - l.toNat = 0 := by omega
                    have e2 : k - l.toNat = 0 := by omega
                    rw [if_pos hk, if_pos hk.symm, e1, e2]
                    simp only [RepV]
                    exact ⟨r1, trivial, by omega, by omega, fun j hj => by omega⟩
                  · rw [if_neg hk, if_neg (fun e => hk e.symm)]
                    simp only [RepV]
                    refine ⟨r1, by simp [Addr.add_lit, Nat.add_mul], by omega, by omega, fun j hj => ?_⟩
                    have e3 : (k - l.toNat) * T.size + l.toNat * T.size = k * T.size := by rw [← Nat.add_mul]; congr 1; omega
                    have := r5 (l.toNat * T.size + j) (by omega)
                    rw [← Nat.add_assoc, ← Nat.add_mul] at this
                    exact this
              · cases h
    · rename_i hno
      cases hs : slOf P t with
      | none => simp [hs] at h
      | some e =>
        have hu := slOf_some hs
        simp only [hs, Option.bind_some] at h
        cases hT : tyOf P e with
        | none => simp [hT] at h
        | some T =>
          simp only [hT, Option.bind_some] at h
          cases hal : alen (st.ev x) with
          | none => simp [hal] at h
          | some len =>
            simp only [hal, Option.bind_some] at h
            cases hl : st.bound lo 0 with
            | none => simp [hl] at h
            | some l =>
              simp only [hl, Option.bind_some] at h
              cases hhi : st.bound hh len with
              | none => simp [hhi] at h
              | some q =>
                simp only [hhi, Option.bind_some] at h
                split at h
                · rename_i hb
                  obtain ⟨h0, h1, h2⟩ := hb
                  have hx := hi.ev x
                  obtain ⟨A, c, hA, hlc⟩ := alen_some hal hx
                  have hrun : ∀ r, (Value.slice (if c = l.toNat then A else A.map (·.add (l.toNat * T.size))) (q.toNat - l.toNat) (c - l.toNat)) = r →
                      (execOp a.eval o).run P w = .ok (.value r) w := by
                    intro r hr
                    have hsb := run_bounds (P := P) hi hl hhi h0 h1 h2 hlc
                    have hsl : (Instr.slice t (.slice A len c) (lo.map a.eval) (hh.map a.eval) none).run P w = .ok r w := by
                      simp only [Instr.slice, Sem.run_bind, run_underlying hu, Result.andThen_ok, hsb, run_sizeOf_ hT, Sem.run_pure]
                      rw [hr]
                    simp only [execOp, ho, Instr.sliceAt, Option.map_none, Sem.run_bind, run_underlying hu, Result.andThen_ok, hA, hsl, Sem.run_pure]
                  split at h
                  · rename_i z es hv
                    rw [hv] at hx hal
                    simp only [alen, Option.some.injEq] at hal
                    subst hal
                    split at h
                    · rename_i hz
                      subst hz
                      obtain ⟨rfl, rfl, rfl⟩ := some3 h
                      refine Done.quiet hi (hrun _ rfl) ?_
                      rw [hA] at hx
                      simp only [RepV] at hx ⊢
                      rcases hx with ⟨⟨a0, hx⟩, rfl⟩ | ⟨b, p, c', hx, h3, h4⟩
                      · cases hx
                        left
                        simp at h2
                        have e1 : l.toNat = 0 := by omega
                        have e2 : q.toNat = 0 := by omega
                        refine ⟨⟨A, ?_⟩, ?_⟩ <;> simp [e1, e2]
                      · cases hx
                        right
                        have hlen : ((es.drop l.toNat).take (q.toNat - l.toNat)).length = q.toNat - l.toNat := by simp; omega
                        by_cases hcl : c = l.toNat
                        · refine ⟨b, p, c - l.toNat, by rw [if_pos hcl, hlen], by omega, ?_⟩
                          have : q.toNat - l.toNat = 0 := by omega
                          rw [this, List.take_zero]
                          simp only [RepEs]
                        · refine ⟨b, p + l.toNat * T.size, c - l.toNat, by rw [if_neg hcl, hlen]; simp [Addr.add_lit], by omega, ?_⟩
                          exact (h4.drop _).of_take _
                    · cases h
                  · rename_i id z off m hv
                    rw [hv] at hx hal
                    simp only [alen, Option.some.injEq] at hal
                    subst hal
                    split at h
                    · rename_i hz
                      subst hz
                      obtain ⟨rfl, rfl, rfl⟩ := some3 h
                      refine Done.quiet hi (hrun _ rfl) ?_
                      rw [hA] at hx
                      simp only [RepV] at hx ⊢
                      obtain ⟨hid, c', p, hx, h3, h4, h5, h6⟩ := hx
                      cases hx
                      refine ⟨hid, c - l.toNat, ?_⟩
                      by_cases hcl : c = l.toNat
                      · refine ⟨p, by rw [if_pos hcl], by omega, ?_, by omega, fun j hj => by rw [hcl] at hj; simp at hj⟩
                        intro hh
                        have e1 : l.toNat = 0 := by omega
                        rw [e1, Nat.add_zero]
                        exact h4 (.inr (by omega))
                      · refine ⟨p + l.toNat * T.size, by rw [if_neg hcl]; simp [Addr.add_lit], by omega, ?_, by omega, ?_⟩
                        · intro hh
                          rw [h4 (by omega), Nat.add_mul]
                        · intro j hj
                          rw [Nat.add_assoc]
                          refine h6 _ ?_
                          have : c * T.size = (c - l.toNat) * T.size + l.toNat * T.size := by rw [← Nat.add_mul]; congr 1; omega
                          omega
                    · cases h
                  · rename_i hv
                    rw [hv] at hx
                    obtain ⟨rfl, rfl, rfl⟩ := some3 h
                    rw [hv] at hal
                    simp only [alen, Option.some.injEq] at hal
                    subst hal
                    simp only [RepV] at hx
                    rw [hA] at hx
                    cases hx
                    refine Done.quiet hi (hrun (.slice none 0 0) ?_) (by simp only [RepV])
                    have e1 : l.toNat = 0 := by omega
                    have e2 : q.toNat = 0 := by omega
                    simp [e1, e2]
                  · cases h
                · cases h
end
end Go.Al

/- Each operation does to the world what is told of it: what is filled, made, appended. -/
namespace Go.Al
section
variable {P : Program} {N : Nat} {a : Act} {w : World} {B0 : Nat → Nat → Prop} {base : Nat} {β : Nat → Nat} {st : AS}

theorem foldset (off : Nat) : ∀ (vs : List Value) (k : Nat) (cells : Array Value), off + k + vs.length ≤ cells.size →
    ((vs.zipIdx k).foldl (fun cs p => cs.setIfInBounds (off + p.2) p.1) cells).toList = cells.toList.take (off + k) ++ vs ++ cells.toList.drop (off + k + vs.length)
  | [], k, cells, _ => by simp
  | v :: vs, k, cells, h => by
    simp only [List.zipIdx_cons, List.foldl_cons]
    rw [foldset off vs (k + 1) _ (by simp at h ⊢; omega)]
    simp only [Array.toList_setIfInBounds]
    simp only [List.length_cons] at h
    apply List.ext_getElem?
    intro j
    simp only [List.getElem?_append, List.getElem?_take, List.getElem?_drop, List.length_append, List.length_take, List.length_drop, List.length_set, Array.length_toList, List.length_cons, List.getElem?_set, List.getElem?_cons]
    repeat' split
    all_goals first | rfl | omega | (congr 1; omega) | skip

theorem splice_rep {B : Nat → Nat → Prop} {n : Nat} {e cs : List AV} {vs us : List Value} {off : Nat} (h : RepC w B β n e vs) (k : RepC w B β n cs us) :
    RepC w B β n (splice e off cs) (vs.take off ++ us ++ vs.drop (off + us.length)) := by
  unfold splice
  rw [k.len]
  exact ((h.take off).append k).append (h.drop _)
theorem splice_len {e cs : List AV} {off : Nat} (h : off + cs.length ≤ e.length) : (splice e off cs).length = e.length := by simp [splice]; omega

theorem fill_rep (hi : Inv N a w B0 base β st) {place : Nat → Option (Nat × Nat)} : ∀ (parts : List (Nat × Operand)) (acs : List AV) (cs : Array Value) (r : List AV), RepC w (Bad B0 β st.H) β st.n acs cs.toList →
    afill place acs (parts.map fun p => (p.1, st.ev p.2)) = some r → ∃ rs, Instr.fill place cs (parts.map fun p => (p.1, a.eval p.2)) = some rs ∧ RepC w (Bad B0 β st.H) β st.n r rs.toList ∧ r.length = acs.length
  | [], acs, cs, r, h, hf => by simp [afill] at hf; subst hf; exact ⟨cs, rfl, h, rfl⟩
  | (i, x) :: parts, acs, cs, r, h, hf => by
    simp only [List.map_cons, afill] at hf
    cases hp : place i with
    | none => simp [hp] at hf
    | some p =>
      obtain ⟨off, size⟩ := p
      simp only [hp, Option.bind_some] at hf
      cases hc : (st.ev x).cells with
      | none => simp [hc] at hf
      | some ds =>
        simp only [hc, Option.bind_some] at hf
        split at hf
        · rename_i hb
          have hx := AV.cells_rep hc (hi.ev x)
          have hl := hx.len
          have hl2 := h.len
          simp only [Array.length_toList] at hl hl2
          have hfs := foldset off (a.eval x).cells.toList 0 cs (by simp; omega)
          simp only [Nat.add_zero] at hfs
          have hsp := splice_rep (off := off) h hx
          rw [← hfs] at hsp
          obtain ⟨rs, h1, h2, h3⟩ := fill_rep hi parts _ _ r hsp hf
          refine ⟨rs, ?_, h2, by rw [h3]; exact splice_len hb.2⟩
          simp only [List.map_cons, Instr.fill, hp]
          rw [if_neg (by simp; omega)]
          rw [← h1]
          congr 1
          rw [← Array.foldl_toList, Array.toList_zipIdx]
        · cases hf

theorem run_places : ∀ (fs : List Field) (pl : List (Nat × Nat)), (fs.map fun f => (f.type, f.offset)).mapM (fun f => (tyOf P f.1).map fun F => (f.2, F.size)) = some pl →
    ∀ w : World, (fs.mapM fun (f : Field) => do pure (f.offset, ← sizeOf f.type)).run P w = .ok pl w
  | [], pl, h, w => by simp at h; subst h; simp
  | f :: fs, pl, h, w => by
    simp only [List.map_cons, List.mapM_cons] at h
    cases hT : tyOf P f.type with
    | none => simp [hT] at h
    | some T =>
      simp only [hT, Option.map_some, Option.bind_eq_bind, Option.bind_some] at h
      cases hr : (fs.map fun f => (f.type, f.offset)).mapM (fun f => (tyOf P f.1).map fun F => (f.2, F.size)) with
      | none => simp [hr] at h
      | some r =>
        simp [hr] at h
        subst h
        have := run_places fs r hr w
        simp [List.mapM_cons, run_sizeOf_ hT] at this ⊢
        simp [this]

theorem done_build {o : Oper} {t : TypeId} {parts : Array (Nat × Operand)} {v : AV} {H' : AH} {n' : Nat} (hi : Inv N a w B0 base β st) (ho : o.op = .build t parts)
    (h : aop P st (.build t parts) = some (v, H', n')) : Done P o a w B0 base β st v H' n' := by
  simp only [aop] at h
  cases hs : stOf P t with
  | none => simp [hs] at h
  | some fs =>
    obtain ⟨F, hu, hfs⟩ := stOf_some hs
    simp only [hs, Option.bind_some] at h
    cases hT : tyOf P t with
    | none => simp [hT] at h
    | some T =>
      simp only [hT, Option.bind_some] at h
      cases hz : T.zero with
      | none => simp [hz] at h
      | some zs =>
        simp only [hz, Option.bind_some] at h
        split at h
        · rename_i hone
          cases hpl : fs.mapM (fun f => (tyOf P f.1).map fun F => (f.2, F.size)) with
          | none => simp [hpl] at h
          | some pl =>
            simp only [hpl, Option.bind_some] at h
            cases hf : afill (fun i => pl[i]?) (zs.map .sc) (parts.toList.map fun p => (p.1, st.ev p.2)) with
            | none => simp [hf] at h
            | some cs =>
              simp only [hf, Option.bind_some] at h
              obtain ⟨rfl, rfl, rfl⟩ := some3 h
              obtain ⟨zv, hz1, hz2⟩ := run_zero_ hT hz w
              obtain ⟨rs, h1, h2, _⟩ := fill_rep hi parts.toList _ zv.cells cs (by rw [hz2]; exact RepC_sc hone) hf
              subst hfs
              have hm := run_places F.toList pl hpl w
              refine Done.quiet hi (u := .agg rs) ?_ (by simp only [RepV]; exact ⟨rs.toList, by simp, h2⟩)
              have hmA : (F.mapM fun (f : Field) => do pure (f.offset, ← sizeOf f.type)).run P w = .ok pl.toArray w := by
                rw [Array.mapM_eq_mapM_toList, map_eq_pure_bind, Sem.run_bind, hm]
                rfl
              have h1' : Instr.fill (fun x => pl[x]?) zv.cells (parts.toList.map fun p => (p.1, a.eval p.2)) = some rs := h1
              simp only [execOp, ho, Instr.build, Sem.run_bind, hz1, Result.andThen_ok, run_underlying hu, hmA]
              simp [h1']
        · cases h

theorem zero_cells (zero : Array Value) (z : Nat) (hz : zero.size = z) (hp : 0 < z) : ∀ len, ((Array.range (len * z)).map (fun i => zero[i % zero.size]!)).toList = (List.replicate len zero.toList).flatten
  | 0 => by simp
  | len + 1 => by
    have ih := zero_cells zero z hz hp len
    apply List.ext_getElem?
    intro j
    have hfl : ∀ k, (List.replicate k zero.toList).flatten.length = k * z := fun k => by simp [hz]
    rw [List.replicate_succ', List.flatten_append, ← ih]
    simp only [List.flatten_cons, List.flatten_nil, List.append_nil]
    simp only [Array.toList_map, Array.toList_range, List.getElem?_append, List.length_map, List.length_range, List.getElem?_map]
    by_cases h1 : j < len * z
    · rw [if_pos h1]
      rw [List.getElem?_range h1, List.getElem?_range (by rw [Nat.succ_mul]; omega)]
    · rw [if_neg h1]
      by_cases h2 : j < (len + 1) * z
      · rw [List.getElem?_range h2]
        have h2' := h2
        rw [Nat.succ_mul] at h2'
        have hmod : j % zero.size = j - len * z := by
          rw [hz]
          have : j = (j - len * z) + z * len := by rw [Nat.mul_comm z len]; omega
          rw [this, Nat.add_mul_mod_self_left, Nat.mod_eq_of_lt (by omega)]
          rw [Nat.mul_comm z len]
          omega
        simp only [Option.map_some, hmod]
        rw [getElem!_pos zero (j - len * z) (by omega)]
        simp
      · have : (List.range ((len + 1) * z))[j]? = none := by simp; omega
        rw [this]
        rw [Nat.succ_mul] at h2
        simp
        omega

theorem RepC_replicate {B : Nat → Nat → Prop} {n : Nat} {cs : List AV} {vs : List Value} (h : RepC w B β n cs vs) : ∀ k, RepC w B β n (List.replicate k cs).flatten (List.replicate k vs).flatten
  | 0 => by simp [RepC]
  | k + 1 => by simp only [List.replicate_succ, List.flatten_cons]; exact h.append (RepC_replicate h k)

theorem chunks_flat {α : Type} (z : Nat) : ∀ (len : Nat) (cs : List α), cs.length = len * z → ((List.range len).map fun i => (cs.drop (i * z)).take z).flatten = cs
  | 0, cs, h => by simp at h; subst h; simp
  | len + 1, cs, h => by
    rw [List.range_succ, List.map_append, List.flatten_append]
    have h' := h
    rw [Nat.succ_mul] at h'
    have ih := chunks_flat z len (cs.take (len * z)) (by simp; omega)
    have e : ((List.range len).map fun i => ((cs.take (len * z)).drop (i * z)).take z) = ((List.range len).map fun i => (cs.drop (i * z)).take z) := by
      refine List.map_congr_left fun i hi => ?_
      have hil : i < len := List.mem_range.1 hi
      have : (i + 1) * z ≤ len * z := Nat.mul_le_mul_right z hil
      rw [Nat.succ_mul] at this
      rw [List.drop_take, List.take_take, Nat.min_eq_left (by omega)]
    rw [← e, ih]
    simp only [List.map_cons, List.map_nil, List.flatten_cons, List.flatten_nil, List.append_nil]
    rw [List.take_of_length_le (l := cs.drop (len * z)) (by simp; omega)]
    exact List.take_append_drop _ _
theorem chunks_len {α : Type} (z len : Nat) (cs : List α) (h : cs.length = len * z) : ∀ x ∈ ((List.range len).map fun i => (cs.drop (i * z)).take z), x.length = z := by
  intro x hx
  obtain ⟨i, hi, rfl⟩ := List.mem_map.1 hx
  have hil : i < len := List.mem_range.1 hi
  have : (i + 1) * z ≤ len * z := Nat.mul_le_mul_right z hil
  rw [Nat.succ_mul] at this
  simp
  omega

/-- A slice of a new object, from its begin on. -/
theorem sl_new {w' : World} {B : Nat → Nat → Prop} {n z m cap : Nat} {arr : Array Value} {t : TypeId} (hw : w'.heap = w.heap.push (.cells arr t (0, 0))) (hs : arr.size = cap * z) (hm : m ≤ cap) (hc : cap ≤ maxLen) :
    RepV w' B (upd β n w.heap.size) (n + 1) (.sl n z 0 m) (.slice (some ⟨w.heap.size, 0, none⟩) m cap) := by
  simp only [RepV, upd_same]
  refine ⟨by omega, cap, 0, rfl, hm, fun _ => by simp, hc, fun j hj => ?_⟩
  have : w'.heap[w.heap.size]? = some (.cells arr t (0, 0)) := by rw [hw]; simp
  simp only [World.cell?, this]
  simp
  omega

theorem done_buildSlice {o : Oper} {t : TypeId} {len : Nat} {parts : Array (Nat × Operand)} {v : AV} {H' : AH} {n' : Nat} (hi : Inv N a w B0 base β st) (ho : o.op = .buildSlice t len parts)
    (h : aop P st (.buildSlice t len parts) = some (v, H', n')) : Done P o a w B0 base β st v H' n' := by
  simp only [aop] at h
  cases hs : slOf P t with
  | none => simp [hs] at h
  | some e =>
    have hu := slOf_some hs
    simp only [hs, Option.bind_some] at h
    cases hT : tyOf P e with
    | none => simp [hT] at h
    | some T =>
      simp only [hT, Option.bind_some] at h
      cases hz : T.zero with
      | none => simp [hz] at h
      | some zs =>
        simp only [hz, Option.bind_some] at h
        split at h
        · rename_i hc
          obtain ⟨hc1, hc2, hc3, hc4⟩ := hc
          cases hf : afill (fun i => some (i * T.size, T.size)) (List.replicate len (zs.map AV.sc)).flatten (parts.toList.map fun p => (p.1, st.ev p.2)) with
          | none => simp [hf] at h
          | some cs =>
            simp only [hf, Option.bind_some] at h
            obtain ⟨rfl, rfl, rfl⟩ := some3 h
            obtain ⟨zv, hz1, hz2⟩ := run_zero_ hT hz w
            have hzs : zv.cells.size = T.size := by rw [← Array.length_toList, hz2, hc1]
            have hzc := zero_cells zv.cells T.size hzs hc4 len
            have hr0 : RepC w (Bad B0 β st.H) β st.n (List.replicate len (zs.map AV.sc)).flatten ((Array.range (len * T.size)).map (fun i => zv.cells[i % zv.cells.size]!)).toList := by
              rw [hzc, hz2]; exact RepC_replicate (RepC_sc hc2) len
            obtain ⟨rs, h1, h2, h3⟩ := fill_rep hi parts.toList _ _ cs hr0 hf
            have hl0 : (List.replicate len (zs.map AV.sc)).flatten.length = len * T.size := by simp [hc1]
            have hlc : cs.length = len * T.size := by rw [h3, hl0]
            have hls : rs.size = len * T.size := by have := h2.len; simp at this; omega
            have hlen : len ≤ 16777216 := Nat.le_trans (Nat.le_mul_of_pos_right len hc4) hc3
            have h1' : Instr.fill (fun x => some (x * T.size, T.size)) ((Array.range (len * T.size)).map (fun i => zv.cells[i % zv.cells.size]!)) (parts.toList.map fun p => (p.1, a.eval p.2)) = some rs := h1
            refine Done.alloc hi (arr := rs) (u := .slice (some ⟨w.heap.size, 0, none⟩) len len) ?_ ?_ (chunks_len _ _ _ hlc) (by simp [maxLen]; omega) ?_
            · have hnot : ¬ len * T.size > 2 ^ 24 := by omega
              by_cases h0 : len * T.size = 0
              · have hl0' : len = 0 := by
                  rcases Nat.mul_eq_zero.1 h0 with h | h
                  · exact h
                  · omega
                subst hl0'
                simp only [Nat.zero_mul] at h1' hnot
                have h1'' : Instr.fill (fun x => some (x * T.size, T.size)) (Array.map (fun i => (#[] : Array Value)[i % (#[] : Array Value).size]!) (Array.range 0)) (parts.toList.map fun p => (p.1, a.eval p.2)) = some rs := by
                  have e0 : ∀ f : Nat → Value, Array.map f (Array.range 0) = #[] := fun f => by rw [Array.range_zero']; simp
                  rw [e0] at h1' ⊢
                  exact h1'
                simp only [execOp, ho, Instr.buildSlice, Sem.run_bind, run_underlying hu, Result.andThen_ok, run_sizeOf_ hT, Nat.zero_mul, hnot, if_false, if_true, Sem.run_pure]
                simp [h1'', newRow, newObj, Sem.run] at h1'' ⊢
                simp [h1'', newRow, newObj, Sem.run]
              · simp only [execOp, ho, Instr.buildSlice, Sem.run_bind, run_underlying hu, Result.andThen_ok, run_sizeOf_ hT, hnot, h0, if_false, Sem.run_pure, hz1]
                simp [h1', newRow, newObj, Sem.run]
            · rw [chunks_flat _ _ _ hlc]; exact h2
            · exact sl_new rfl hls (Nat.le_refl _) (by simp [maxLen]; omega)
        · cases h
end
end Go.Al

/- Each operation does to the world what is told of it: lengths, greatest and least, made and appended rows. -/
namespace Go.Al
section
variable {P : Program} {N : Nat} {a : Act} {w : World} {B0 : Nat → Nat → Prop} {base : Nat} {β : Nat → Nat} {st : AS}

theorem wrap_in {n : Int} (h0 : 0 ≤ n) (h1 : n ≤ 1099511627776) : IntKind.i64.wrap n = n := IntWalk.i64_in n ⟨by omega, by omega⟩

theorem done_makeSlice {o : Oper} {t : TypeId} {l c : Operand} {v : AV} {H' : AH} {n' : Nat} (hi : Inv N a w B0 base β st) (ho : o.op = .makeSlice t l c)
    (h : aop P st (.makeSlice t l c) = some (v, H', n')) : Done P o a w B0 base β st v H' n' := by
  simp only [aop] at h
  cases hs : slOf P t with
  | none => simp [hs] at h
  | some e =>
    have hu := slOf_some hs
    simp only [hs, Option.bind_some] at h
    cases hT : tyOf P e with
    | none => simp [hT] at h
    | some T =>
      simp only [hT, Option.bind_some] at h
      cases hz : T.zero with
      | none => simp [hz] at h
      | some zs =>
        simp only [hz, Option.bind_some] at h
        cases hl : (st.ev l).int? with
        | none => simp [hl] at h
        | some n =>
          simp only [hl, Option.bind_some] at h
          cases hc : (st.ev c).int? with
          | none => simp [hc] at h
          | some m =>
            simp only [hc, Option.bind_some] at h
            split at h
            · rename_i hcond
              obtain ⟨h1, h2, h3, rfl, h5, h6, h7⟩ := hcond
              obtain ⟨rfl, rfl, rfl⟩ := some3 h
              obtain ⟨k1, e1⟩ := int?_some hl
              obtain ⟨k2, e2⟩ := int?_some hc
              have x1 := hi.ev l
              have x2 := hi.ev c
              rw [e1] at x1; rw [e2] at x2
              simp only [RepV] at x1 x2
              obtain ⟨zv, hz1, hz2⟩ := run_zero_ hT hz w
              obtain ⟨i, d, g1, g2, g3, g4, g5, g6⟩ := tyOf_some hT
              have hzs : zv.cells.size = T.size := by rw [← Array.length_toList, hz2, h1]
              have hzc := zero_cells zv.cells T.size hzs h3 n.toNat
              have hrun : ∃ arr : Array Value, (execOp a.eval o).run P w = .ok (.value (.slice (some ⟨w.heap.size, 0, none⟩) n.toNat n.toNat)) { w with heap := w.heap.push (.cells arr e) } ∧
                  arr.toList = (List.replicate n.toNat zs).flatten := by
                have hw := wrap_in h5 h7
                have hb1 : ¬ ((i.bytes : Int) * n > 281474976710656) := by rw [g4, Int.mul_comm]; omega
                have hb2 : ¬ (n.toNat * i.bytes > 140737488355328) := by
                  rw [g4]
                  have : ((n.toNat * T.bytes : Nat) : Int) = n * T.bytes := by rw [Int.natCast_mul, Int.toNat_of_nonneg h5]
                  omega
                have hb3 : ¬ n < 0 := by omega
                have hti : (typeInfo e).run P w = .ok i w := by simp [typeInfo, g1]
                by_cases hn0 : n.toNat * T.size = 0
                · have hn : n.toNat = 0 := by
                    rcases Nat.mul_eq_zero.1 hn0 with h | h
                    · exact h
                    · omega
                  refine ⟨#[], ?_, by simp [hn]⟩
                  have hr0 : (#[] : Array Value) = Array.map (fun i => (#[] : Array Value)[i % (#[] : Array Value).size]!) (Array.range 0) := by rw [Array.range_zero']; simp
                  simp [execOp, ho, Instr.makeSlice, run_underlying hu, x1, x2, asInt, asIntOf, hti, hw, hb1, hb3, askRoom, roomBytes, hn, run_sizeOf_ hT, newRow, newObj, Sem.run, Array.range_zero']
                · refine ⟨_, ?_, by rw [hzc, hz2]⟩
                  simp [execOp, ho, Instr.makeSlice, run_underlying hu, x1, x2, asInt, asIntOf, hti, hw, hb1, hb3, askRoom, roomBytes, hb2, run_sizeOf_ hT, hn0, hz1, newRow, newObj, Sem.run]
              obtain ⟨arr, hr1, hr2⟩ := hrun
              have hrep : RepC w (Bad B0 β st.H) β st.n (List.replicate n.toNat (zs.map AV.sc)).flatten arr.toList := by rw [hr2]; exact RepC_replicate (RepC_sc h2) _
              have hsz : arr.size = n.toNat * T.size := by
                rw [← Array.length_toList, hr2]; simp [h1]
              refine Done.alloc hi (arr := arr) hr1 hrep ?_ (by simp [maxLen]; omega) (sl_new rfl hsz (Nat.le_refl _) (by simp [maxLen]; omega))
              intro x hx
              rw [List.eq_of_mem_replicate hx]
              simp [h1]
            · cases h

theorem done_len {o : Oper} {c : Call} {v : AV} {H' : AH} {n' : Nat} (hi : Inv N a w B0 base β st) (ho : o.op = .call c) (hc : c.callee = .builtin .len)
    (h : aop P st (.call c) = some (v, H', n')) : Done P o a w B0 base β st v H' n' := by
  simp only [aop, hc] at h
  split at h
  · rename_i x t e1 e2
    cases hs : slOf P t with
    | none => simp [hs] at h
    | some e =>
      have hu := slOf_some hs
      simp only [hs, Option.bind_some] at h
      cases hal : alen x with
      | none => simp [hal] at h
      | some m =>
        simp only [hal, Option.bind_some] at h
        obtain ⟨rfl, rfl, rfl⟩ := some3 h
        have hl := RepL_ev hi c.args.toList
        rw [e1] at hl
        simp only [RepL] at hl
        obtain ⟨u, us, e3, h1, rfl⟩ := hl
        obtain ⟨A, cc, rfl, _⟩ := alen_some hal h1
        refine Done.quiet hi (u := .int .i64 m) ?_ (by simp only [RepV])
        have ea : c.args.map a.eval = #[.slice A m cc] := by rw [← Array.toList_inj]; simpa using e3
        have et : c.argTypes = #[t] := by rw [← Array.toList_inj]; simpa using e2
        simp [execOp, ho, resolve, hc, invoke, builtin, Builtin.len_, ea, et, run_underlying hu, goInt]
  · cases h

theorem done_max {o : Oper} {c : Call} {v : AV} {H' : AH} {n' : Nat} (hi : Inv N a w B0 base β st) (ho : o.op = .call c) (hc : c.callee = .builtin .max ∨ c.callee = .builtin .min)
    (h : aop P st (.call c) = some (v, H', n')) : Done P o a w B0 base β st v H' n' := by
  rcases hc with hc | hc
  all_goals
    simp only [aop, hc] at h
    split at h
    · rename_i k x k' y e1
      obtain ⟨rfl, rfl, rfl⟩ := some3 h
      have hl := RepL_ev hi c.args.toList
      rw [e1] at hl
      simp only [RepL, RepV] at hl
      obtain ⟨u, us, e3, h1, u', us', e4, h2, rfl⟩ := hl
      subst h1
      subst h2
      subst e4
      have ea : c.args.map a.eval = #[.int k x, .int k' y] := by rw [← Array.toList_inj]; simpa using e3
      refine Done.quiet hi (u := _) ?_ (by simp only [RepV]; rfl)
      simp [execOp, ho, resolve, hc, invoke, builtin, Builtin.max_, Builtin.min_, Builtin.max2, Builtin.min2, ea]
    · cases h
end
end Go.Al

/- An append, and every operation together. -/
namespace Go.Al
section
variable {P : Program} {N : Nat} {a : Act} {w : World} {B0 : Nat → Nat → Prop} {base : Nat} {β : Nat → Nat} {st : AS}

theorem elems_rep (hi : Inv N a w B0 base β st) {z : Nat} {y : AV} {ys : List (List AV)} {u : Value} (h : elems st.H z y = some ys) (hr : RepV w (Bad B0 β st.H) β st.n y u) :
    ((∃ a, u = .slice a 0 0) ∧ ys = []) ∨ ∃ b o c vs, u = .slice (some ⟨b, o, none⟩) ys.length c ∧ RepC w (Bad B0 β st.H) β st.n ys.flatten vs ∧ (∀ x ∈ ys, x.length = z) ∧
      ∀ j v, vs[j]? = some v → w.cell? ((⟨b, o, none⟩ : Addr).add j) = some v := by
  unfold elems at h
  split at h
  · cases h
    simp only [RepV] at hr
    exact .inl ⟨⟨_, hr⟩, rfl⟩
  · rename_i z' es
    split at h
    · rename_i hz
      subst hz
      cases h
      simp only [RepV] at hr
      rcases hr with hr | ⟨b, o, c, rfl, h1, h2⟩
      · exact .inl hr
      · obtain ⟨k1, k2⟩ := h2.flat
        obtain ⟨vs, k3, k4⟩ := k2.cells
        refine .inr ⟨b, o, c, vs, rfl, k3, ?_, fun j v hv => by rw [Addr.add_lit]; exact k4 j v hv⟩
        intro x hx
        obtain ⟨i, hi', rfl⟩ := List.mem_iff_getElem.1 hx
        exact (h2.get i _ (List.getElem?_eq_getElem hi')).1
    · cases h
  · rename_i id z' off m
    split at h
    · rename_i hz
      subst hz
      split at h
      · rename_i t z2 es s hH
        split at h
        · rename_i hc
          obtain ⟨rfl, hc⟩ := hc
          cases h
          simp only [RepV] at hr
          obtain ⟨hid, c, o, rfl, h1, h2, h3, h4⟩ := hr
          obtain ⟨cur, cap, g1, g2, g3, g4, g5, g6⟩ := hi.heap.obj id _ _ _ _ hH
          have hlen : ((es.drop off).take m).length = m := by simp; omega
          have hz6 : ∀ x ∈ (es.drop off).take m, x.length = z2 := fun x hx => g6 x (List.mem_of_mem_drop (List.mem_of_mem_take hx))
          have hfl : ((es.drop off).take m).flatten = (es.flatten.drop (off * z2)).take (m * z2) := by
            have e1 : ∀ (l : List (List AV)) (k : Nat), (∀ x ∈ l, x.length = z2) → (l.drop k).flatten = l.flatten.drop (k * z2) := by
              intro l k hl
              induction k generalizing l with
              | zero => simp
              | succ k ih =>
                cases l with
                | nil => simp
                | cons x l =>
                  rw [List.drop_succ_cons, ih l (fun y hy => hl y (List.mem_cons_of_mem _ hy)), List.flatten_cons, Nat.succ_mul, show k * z2 + z2 = x.length + k * z2 by rw [hl x (by simp)]; omega, List.drop_length_add_append]
            have e2 : ∀ (l : List (List AV)) (k : Nat), (∀ x ∈ l, x.length = z2) → (l.take k).flatten = l.flatten.take (k * z2) := by
              intro l k hl
              induction k generalizing l with
              | zero => simp
              | succ k ih =>
                cases l with
                | nil => simp
                | cons x l =>
                  rw [List.take_succ_cons, List.flatten_cons, ih l (fun y hy => hl y (List.mem_cons_of_mem _ hy)), List.flatten_cons, Nat.succ_mul, show k * z2 + z2 = x.length + k * z2 by rw [hl x (by simp)]; omega, List.take_length_add_append]
            rw [e2 _ _ (fun x hx => g6 x (List.mem_of_mem_drop hx)), e1 _ _ g6]
          have hrep := (g5.drop (off * z2)).take (m * z2)
          rw [← hfl] at hrep
          refine .inr ⟨β id, o, c, _, by rw [hlen], hrep, hz6, ?_⟩
          intro j v hv
          have hlv := (List.getElem?_eq_some_iff.1 hv).1
          simp only [List.length_take, List.length_drop, Array.length_toList] at hlv
          have hm : m ≠ 0 := by rintro rfl; simp at hlv
          have ho := h2 (.inl hm)
          subst ho
          have hjm : j < m * z2 := by omega
          have hle : off * z2 + j < es.length * z2 := by
            have : (off + m) * z2 ≤ es.length * z2 := Nat.mul_le_mul_right _ hc
            rw [Nat.add_mul] at this
            omega
          rw [List.getElem?_take, if_pos hjm, List.getElem?_drop, List.getElem?_take, if_pos hle] at hv
          rw [Addr.add_lit]
          simp only [World.cell?, g1]
          simpa using hv
        · cases h
      · cases h
    · cases h
  · cases h

theorem nat_bound {n b m : Nat} (h : n * b ≤ 140737488355328) : n * b ≤ 281474976710656 := by omega

theorem done_append {o : Oper} {c : Call} {v : AV} {H' : AH} {n' : Nat} (hi : Inv N a w B0 base β st) (ho : o.op = .call c) (hc : c.callee = .builtin .append)
    (h : aop P st (.call c) = some (v, H', n')) : Done P o a w B0 base β st v H' n' := by
  simp only [aop, hc] at h
  split at h
  · rename_i x y t t' e1 e2
    split at h
    · rename_i htt
      subst htt
      cases hs : slOf P t with
      | none => simp [hs] at h
      | some e =>
        have hu := slOf_some hs
        simp only [hs, Option.bind_some] at h
        cases hT : tyOf P e with
        | none => simp [hT] at h
        | some T =>
          simp only [hT, Option.bind_some] at h
          cases hz : T.zero with
          | none => simp [hz] at h
          | some zs =>
            simp only [hz, Option.bind_some] at h
            cases hy : elems st.H T.size y with
            | none => simp [hy] at h
            | some ys =>
              simp only [hy, Option.bind_some] at h
              split at h
              · rename_i hzl
                obtain ⟨hzl, hzp⟩ := hzl
                obtain ⟨i, d, g1, g2, g3, g4, g5, g6⟩ := tyOf_some hT
                rw [hz] at g6
                cases hiz : i.zero with
                | none => simp [hiz] at g6
                | some zv =>
                  have hzv : zv.cells.size = i.size := by
                    have : zv.cells.toList = zs := by simpa [hiz] using g6
                    rw [← Array.length_toList, this, hzl, g3]
                  have hl := RepL_ev hi c.args.toList
                  rw [e1] at hl
                  simp only [RepL] at hl
                  obtain ⟨ux, us, e3, hx, uy, us', e4, hyr, rfl⟩ := hl
                  subst e4
                  have ea : c.args.map a.eval = #[ux, uy] := by rw [← Array.toList_inj]; simpa using e3
                  have et : c.argTypes = #[t, t] := by rw [← Array.toList_inj]; simpa using e2
                  have hexec : ∀ (r : Value) (w' : World), (Builtin.append_ #[t, t] o.type #[ux, uy]).run P w = .ok r w' → (execOp a.eval o).run P w = .ok (.value r) w' := by
                    intro r w' hr
                    simp only [execOp, ho, resolve, hc, invoke, builtin, ea, et, Sem.run_bind, Sem.run_pure, Result.andThen_ok, hr]
                  have hel := elems_rep hi hy hyr
                  have hzsz : zv.cells.size = T.size := by rw [hzv, g3]
                  split at h
                  · -- onto nil
                    simp only [RepV] at hx
                    subst hx
                    split at h
                    · obtain ⟨rfl, rfl, rfl⟩ := some3 h
                      refine Done.quiet hi (u := .slice none 0 0) (hexec _ _ ?_) (by simp only [RepV])
                      rcases hel with ⟨⟨a0, rfl⟩, _⟩ | ⟨b, q, cc, vs, rfl, _⟩
                      · cases a0 <;> simp [Builtin.append_, run_underlying hu, sizeOf, typeInfo, g1, Builtin.lenOf, Builtin.firstCells, loadCells, loadCellsFrom]
                      · simp [Builtin.append_, run_underlying hu, sizeOf, typeInfo, g1, Builtin.lenOf, Builtin.firstCells, loadCells, loadCellsFrom]
                    · rename_i y0 r
                      split at h
                      · rename_i hb
                        obtain ⟨hb1, hb2⟩ := hb
                        obtain ⟨rfl, rfl, rfl⟩ := some3 h
                        rcases hel with ⟨_, hn⟩ | ⟨b, q, cc, vs, rfl, k1, k2, k3⟩
                        · cases hn
                        · have hvl := k1.len
                          rw [flat_len k2] at hvl
                          have hr := run_append_nil (P := P) w t o.type e i zv hu g1 hiz ⟨b, q, none⟩ (y0 :: r).length cc vs (by rw [g3]; exact hvl) k3 (by simp) (by simp; omega) (by rw [g4]; exact nat_bound (m := 0) hb1)
                          have hge := grownCap_ge w (y0 :: r).length 0 e
                          have hle := grownCap_le_maxLen w (y0 :: r).length 0 e (by simp only [maxLen, List.length_cons]; omega)
                          generalize hcap : grownCap w (y0 :: r).length 0 e = cap at hr hge hle
                          have hsz : (vs.toArray ++ Builtin.zeroCells zv.cells (cap - (y0 :: r).length)).size = cap * T.size := by
                            rw [Array.size_append, List.size_toArray, size_zeroCells, hvl, hzsz, ← Nat.add_mul]; congr 1; omega
                          have htk : (vs.toArray ++ Builtin.zeroCells zv.cells (cap - (y0 :: r).length)).toList.take ((y0 :: r).length * T.size) = vs := by
                            rw [Array.toList_append, ← hvl]; exact List.take_left
                          obtain ⟨m1, m2⟩ := hi.heap.alloc_cap (w' := w.drew.alloc (.cells (vs.toArray ++ Builtin.zeroCells zv.cells (cap - (y0 :: r).length)) e)) (s := false) hi.b0 hi.base rfl rfl rfl rfl (by rw [htk]; exact k1) k2 hge hle hsz
                          exact ⟨_, _, _, .inl (hexec _ _ hr), m1, m2, sl_new (w := w) (w' := w.drew.alloc (.cells (vs.toArray ++ Builtin.zeroCells zv.cells (cap - (y0 :: r).length)) e)) rfl hsz hge hle⟩
                      · cases h
                  · -- onto a live row
                    rename_i id zz off m
                    split at h
                    · rename_i e' z' es s hH
                      split at h
                      · rename_i hcond
                        obtain ⟨rfl, rfl, rfl, rfl, rfl, hb1, hb2⟩ := hcond
                        obtain ⟨rfl, rfl, rfl⟩ := some3 h
                        simp only [RepV] at hx
                        obtain ⟨hid, cc, q, rfl, x1, x2, x3, x4⟩ := hx
                        have hq : q = 0 := by rw [x2 (.inr trivial)]; simp
                        subst hq
                        obtain ⟨cur, cap, f1, f2, f3, f4, f5, f6⟩ := hi.heap.obj id _ _ _ _ hH
                        have hccc : cc * T.size ≤ cur.size := by
                          rcases Nat.eq_zero_or_pos (cc * T.size) with h0 | h0
                          · omega
                          · have := x4 (cc * T.size - 1) (by omega)
                            simp only [World.cell?, f1] at this
                            simp at this
                            omega
                        have hcap : cc ≤ cap := by
                          rw [f4] at hccc
                          exact Nat.le_of_mul_le_mul_right hccc hzp
                        -- what is appended, as cells
                        obtain ⟨vs, hvl, hvrep, hys, hrun⟩ : ∃ vs : List Value, vs.length = ys.length * T.size ∧ RepC w (Bad B0 β st.H) β st.n ys.flatten vs ∧ (∀ x ∈ ys, x.length = T.size) ∧
                            ((es.length + ys.length ≤ cc ∧ (Builtin.append_ #[t, t] o.type #[.slice (some ⟨β id, 0, none⟩) es.length cc, uy]).run P w = .ok (.slice (some ⟨β id, 0, none⟩) (es.length + ys.length) cc) (w.setRow (β id) (cur.toList.take (es.length * T.size) ++ vs ++ cur.toList.drop (es.length * T.size + vs.length)).toArray)) ∨
                             (cc < es.length + ys.length ∧ (Builtin.append_ #[t, t] o.type #[.slice (some ⟨β id, 0, none⟩) es.length cc, uy]).run P w = .ok (.slice (some ⟨w.heap.size, 0, none⟩) (es.length + ys.length) (grownCap w (es.length + ys.length) cc e'))
                                (w.drew.alloc (.cells ((cur.toList.take (es.length * T.size)).toArray ++ vs.toArray ++ Builtin.zeroCells zv.cells (grownCap w (es.length + ys.length) cc e' - (es.length + ys.length))) e')))) := by
                          rcases hel with ⟨⟨a0, rfl⟩, rfl⟩ | ⟨b, q, c2, vs, rfl, k1, k2, k3⟩
                          · refine ⟨[], by simp, by simp [RepC], by simp, .inl ⟨by simpa using x1, ?_⟩⟩
                            have hself : w.setRow (β id) (cur.toList.take (es.length * T.size) ++ [] ++ cur.toList.drop (es.length * T.size + ([] : List Value).length)).toArray = w := by
                              simp only [List.append_nil, List.length_nil, Nat.add_zero, List.take_append_drop, Array.toArray_toList]
                              exact setRow_self w _ cur _ _ f1
                            rw [hself]
                            cases a0 <;> simp [Builtin.append_, run_underlying hu, sizeOf, typeInfo, g1, Builtin.lenOf, x1, Builtin.firstCells, storeCells, loadCells, loadCellsFrom]
                          · have hvl := k1.len
                            rw [flat_len k2] at hvl
                            refine ⟨vs, hvl, k1, k2, ?_⟩
                            by_cases hroom : es.length + ys.length ≤ cc
                            · left
                              refine ⟨hroom, ?_⟩
                              have := run_append_room (P := P) w t o.type e' i hu g1 (β id) es.length cc cur f1 ⟨b, q, none⟩ ys.length c2 vs (by rw [g3]; exact hvl) k3 k1.one hroom (by
                                rw [g3, hvl, ← Nat.add_mul]
                                exact Nat.le_trans (Nat.mul_le_mul_right _ hroom) hccc)
                              rw [g3] at this
                              exact this
                            · right
                              refine ⟨by omega, ?_⟩
                              have hlo : (cur.toList.take (es.length * T.size)).length = es.length * T.size := by
                                have := f5.len; rw [flat_len f6] at this; exact this
                              exact run_append_grow (P := P) w t o.type e' i zv hu g1 hiz ⟨β id, 0, none⟩ es.length cc (cur.toList.take (es.length * T.size)) (by rw [g3]; exact hlo)
                                (by
                                  intro j u hj
                                  rw [Addr.add_lit, Nat.zero_add]
                                  have hjl := (List.getElem?_eq_some_iff.1 hj).1
                                  rw [hlo] at hjl
                                  rw [List.getElem?_take, if_pos hjl] at hj
                                  simp only [World.cell?, f1]
                                  simpa using hj)
                                ⟨b, q, none⟩ ys.length c2 vs (by rw [g3]; exact hvl) k3 (by omega) (by omega) (growslice_fits (by omega) (by rw [g4]; exact hb1))
                        have hall : ∀ x ∈ es ++ ys, x.length = T.size := by
                          intro x hx
                          rcases List.mem_append.1 hx with hx | hx
                          · exact f6 x hx
                          · exact hys x hx
                        have hrepall : RepC w (Bad B0 β st.H) β st.n (es ++ ys).flatten (cur.toList.take (es.length * T.size) ++ vs) := by
                          rw [List.flatten_append]; exact f5.append hvrep
                        have hlo : (cur.toList.take (es.length * T.size)).length = es.length * T.size := by
                          have := f5.len; rw [flat_len f6] at this; exact this
                        rcases hrun with ⟨hroom, hrun⟩ | ⟨hgrow, hrun⟩
                        · have hfit : es.length * T.size + vs.length ≤ cur.size := by
                            rw [hvl, ← Nat.add_mul]; exact Nat.le_trans (Nat.mul_le_mul_right _ hroom) hccc
                          have hsz : (cur.toList.take (es.length * T.size) ++ vs ++ cur.toList.drop (es.length * T.size + vs.length)).toArray.size = cur.size := by simp; omega
                          obtain ⟨m1, m2⟩ := hi.heap.room (ys := ys) (cap := cap) hi.b0 hH hall f1 hsz f4 (by rw [List.length_append]; omega) f3
                            (by
                              intro p hp
                              simp only [← Array.getElem?_toList, List.getElem?_append, List.getElem?_take, List.length_append, hlo]
                              rw [if_pos (by omega), if_pos hp, if_pos hp])
                            (by
                              have : (cur.toList.take (es.length * T.size) ++ vs ++ cur.toList.drop (es.length * T.size + vs.length)).toArray.toList.take ((es ++ ys).length * T.size) = cur.toList.take (es.length * T.size) ++ vs := by
                                have e5 : (es ++ ys).length * T.size = (cur.toList.take (es.length * T.size) ++ vs).length := by
                                  rw [List.length_append, List.length_append, hlo, hvl, Nat.add_mul]
                                rw [e5]
                                exact List.take_left
                              rw [this]; exact hrepall)
                          refine ⟨_, _, _, .inl (hexec _ _ hrun), m1, m2, ?_⟩
                          simp only [RepV, upd_same]
                          refine ⟨by omega, cc, 0, rfl, hroom, fun _ => by simp, x3, fun j hj => ?_⟩
                          have := setRow_heap w (β id) cur (cur.toList.take (es.length * T.size) ++ vs ++ cur.toList.drop (es.length * T.size + vs.length)).toArray e' (0, 0) f1
                          simp only [World.cell?, this]
                          simp only [Option.isSome_none, Bool.false_eq_true, if_false, Nat.zero_add]
                          rw [Array.getElem?_eq_getElem (by rw [hsz]; omega)]
                          rfl
                        · obtain ⟨d1, d2⟩ := hi.heap.drop (id := id)
                          have hb0 := hi.b0
                          have hge := grownCap_ge w (es.length + ys.length) cc e'
                          have hle := grownCap_le_maxLen w (es.length + ys.length) cc e' (by simp only [maxLen]; omega)
                          generalize hgc : grownCap w (es.length + ys.length) cc e' = gcap at hrun hge hle
                          have hsz : ((cur.toList.take (es.length * T.size)).toArray ++ vs.toArray ++ Builtin.zeroCells zv.cells (gcap - (es.length + ys.length))).size = gcap * T.size := by
                            rw [Array.size_append, Array.size_append, List.size_toArray, List.size_toArray, size_zeroCells, hlo, hvl, hzsz, ← Nat.add_mul, ← Nat.add_mul]; congr 1; omega
                          have htk : ((cur.toList.take (es.length * T.size)).toArray ++ vs.toArray ++ Builtin.zeroCells zv.cells (gcap - (es.length + ys.length))).toList.take ((es ++ ys).length * T.size) = cur.toList.take (es.length * T.size) ++ vs := by
                            have e5 : (es ++ ys).length * T.size = (cur.toList.take (es.length * T.size) ++ vs).length := by
                              rw [List.length_append, List.length_append, hlo, hvl, Nat.add_mul]
                            rw [e5, Array.toList_append, Array.toList_append]
                            exact List.take_left
                          have hpres : Pres w (Bad B0 β st.H) w (Bad B0 β (upd st.H id none)) := d2.pres
                          obtain ⟨m1, m2⟩ := d1.alloc_cap (w' := w.drew.alloc (.cells ((cur.toList.take (es.length * T.size)).toArray ++ vs.toArray ++ Builtin.zeroCells zv.cells (gcap - (es.length + ys.length))) e')) (s := s) (es := es ++ ys) hb0 hi.base rfl rfl rfl rfl
                            (by rw [htk]; exact hrepall.mono hpres (fun _ _ => rfl) (Nat.le_refl _)) hall (by rw [List.length_append]; exact hge) hle hsz
                          exact ⟨_, _, _, .inl (hexec _ _ hrun), m1, d2.trans m2, sl_new (w := w) rfl hsz hge hle⟩
                      · cases h
                    · cases h
                  · cases h
              · cases h
    · cases h
  · cases h

theorem aop_sound {o : Oper} {v : AV} {H' : AH} {n' : Nat} (hi : Inv N a w B0 base β st) (h : aop P st o.op = some (v, H', n')) : Done P o a w B0 base β st v H' n' := by
  generalize ho : o.op = op at h
  cases op with
  | move x => exact done_move hi (.inl ho) h
  | assign x => exact done_move hi (.inr ho) h
  | pick c x y => exact done_pick hi ho h
  | alloc t => exact done_alloc hi ho h
  | box t x => exact done_box hi ho h
  | build t parts => exact done_build hi ho h
  | buildSlice t len parts => exact done_buildSlice hi ho h
  | load t x => exact done_load hi ho h
  | store t x y => exact done_store hi ho h
  | nilCheck x => exact done_nilCheck hi ho h
  | binOp op t x y t' => exact done_bin hi ho h
  | unOp op t x => exact done_un hi ho h
  | convert s d x => exact done_convert hi ho h
  | makeFunc f first captured =>
    cases f with
    | func f => exact done_makeFunc hi ho h
    | _ => simp [aop] at h
  | makeSlice t l c => exact done_makeSlice hi ho h
  | slice t x lo hh mx => exact done_slice hi ho h
  | fieldAddr s x f => exact done_fieldAddr hi ho h
  | field s x f => exact done_field hi ho h
  | indexAddr t x ix => exact done_indexAddr hi ho h
  | index t x ix => exact done_index hi ho h
  | extract x i => exact done_extract hi ho h
  | call c =>
    cases hc : c.callee with
    | value f => simp [aop, hc] at h
    | invoke r m => simp [aop, hc] at h
    | builtin b =>
      cases b with
      | len => exact done_len hi ho hc h
      | max => exact done_max hi ho (.inl hc) h
      | min => exact done_max hi ho (.inr hc) h
      | append => exact done_append hi ho hc h
      | _ => simp [aop, hc] at h
  | _ => simp [aop] at h
end
end Go.Al

/- Regions, calls, and functions, told. -/
namespace Go.Al

def callsF (o : Oper) : Option (Call × Operand) :=
  match o.op with
  | .call c => match c.callee with
    | .value f => some (c, f)
    | _ => none
  | _ => none
def dstOk (N : Nat) (o : Oper) : Prop := match o.dst with | some d => d < N | none => True
def dstsOk (N : Nat) (l : List Oper) : Bool := l.all fun o => match o.dst with | some d => decide (d < N) | none => true
theorem dstsOk_cons {N : Nat} {o : Oper} {l : List Oper} (h : dstsOk N (o :: l) = true) : dstOk N o ∧ dstsOk N l = true := by
  simp only [dstsOk, List.all_cons, Bool.and_eq_true] at h
  refine ⟨?_, h.2⟩
  unfold dstOk
  have := h.1
  cases hd : o.dst <;> simp [hd] at this ⊢
  exact this

/-- Does an operation run? -/
def AWant (G : List (Option Nat)) (o : Oper) (st : AS) : Option Bool :=
  match o.guard with
  | none => some true
  | some (j, want) => match G[j]? with
    | some (some d) => match st.t d with
      | .sc (.bool b) => some (b == want)
      | .sc (.tuple _) => some false
      | _ => none
    | _ => none

/-- A call: some contract of what is called. -/
def ACall (P : Program) (st : AS) (c : Call) (f : Operand) (K : AV → AH → Nat → Prop) : Prop :=
  ∃ g cs R, st.ev f = .fn g cs ∧ HCalls P g (c.args.toList.map st.ev ++ cs) st.H st.n R ∧ ∀ r H' n', R r H' n' → K r H' n'

/-- An operation told by a rule of its own: what it comes to may hang on the world. -/
def AStepX (P : Program) (o : Oper) (st : AS) (K : AS → Prop) : Prop :=
  ∀ N a w B0 base β, Inv N a w B0 base β st → ∃ v H' n', Done P o a w B0 base β st v H' n' ∧ K ((AS.mk st.t H' n').put o.dst v)
def ACallK (P : Program) (o : Oper) (st : AS) (c : Call) (f : Operand) (d : Option Nat) (K : AS → Prop) : Prop := ACall P st c f (fun r H' n' => K ((AS.mk st.t H' n').put d r)) ∨ AStepX P o st K
def AStep (P : Program) (o : Oper) (st : AS) (K : AS → Prop) : Prop :=
  match callsF o with
    | some (c, f) => ACallK P o st c f o.dst K
    | none => match aop P st o.op with
      | some r => K ((AS.mk st.t r.2.1 r.2.2).put o.dst r.1)
      | none => AStepX P o st K
def AOps (P : Program) (G : List (Option Nat)) (K : AS → Prop) : List Oper → AS → Prop
  | [], st => K st
  | o :: rest, st => match AWant G o st with
    | some true => AStep P o st (AOps P G K rest)
    | some false => AOps P G K rest (st.put o.dst (.sc (.tuple #[])))
    | none => False

section
variable {P : Program} {N : Nat} {a : Act} {w : World} {B0 : Nat → Nat → Prop} {base : Nat} {β : Nat → Nat} {st : AS}

theorem Inv.put {w' : World} {β' : Nat → Nat} {H' : AH} {n' : Nat} {v : AV} {u : Value} {d : Option Nat} (hi : Inv N a w B0 base β st) (hd : match d with | some d => d < N | none => True)
    (h1 : HRep w' B0 base β' n' H') (h2 : Ext w B0 β st.n st.H w' β' n' H') (h3 : RepV w' (Bad B0 β' H') β' n' v u) :
    Inv N (a.put d u) w' B0 base β' ((AS.mk st.t H' n').put d v) := by
  have hold : ∀ i, RepV w' (Bad B0 β' H') β' n' (st.t i) (a.tmps.getD i undef) := fun i => (hi.tmps i).mono h2.pres h2.agree h2.le
  cases d with
  | none => exact ⟨hi.size, hi.defers, hold, h1, hi.b0, Nat.le_trans hi.base h2.size⟩
  | some d =>
    refine ⟨by simp [Act.put, hi.size], hi.defers, ?_, h1, hi.b0, Nat.le_trans hi.base h2.size⟩
    intro i
    simp only [Act.put, AS.put]
    by_cases e : i = d
    · subst e
      rw [upd_same]
      have hd' : i < a.tmps.size := by rw [hi.size]; exact hd
      simp [Array.getD_eq_getD_getElem?, hd', h3]
    · rw [upd_ne _ _ e]
      have := hold i
      simp only [Array.getD_eq_getD_getElem?] at this ⊢
      rw [Array.getElem?_setIfInBounds_ne (Ne.symm e)]
      exact this

theorem AWant_spec {ops : Array Oper} {o : Oper} {b : Bool} (hi : Inv N a w B0 base β st) (h : AWant (ops.toList.map (·.dst)) o st = some b) : Region.wanted o (yielded ops a.tmps) = b := by
  unfold AWant at h
  unfold Region.wanted
  cases hg : o.guard with
  | none => simp [hg] at h ⊢; exact h
  | some p =>
    obtain ⟨j, want⟩ := p
    simp only [hg] at h ⊢
    split at h
    · rename_i d hj
      have hoj : (ops[j]?).bind (·.dst) = some d := by
        rw [List.getElem?_map, Array.getElem?_toList] at hj
        cases hq : ops[j]? with
        | none => simp [hq] at hj
        | some oj => simp [hq] at hj ⊢; exact hj
      split at h
      · rename_i x hx
        cases h
        have h1 := hi.tmps d
        rw [hx] at h1
        simp only [RepV] at h1
        have hdd : a.tmps[d]? = some (.bool x) := by
          rw [Array.getD_eq_getD_getElem?] at h1
          cases hq : a.tmps[d]? with
          | none => rw [hq] at h1; simp [undef] at h1
          | some v => rw [hq] at h1; simp at h1; rw [h1]
        simp [yielded, hoj, hdd]
      · rename_i vs hx
        cases h
        have h1 := hi.tmps d
        rw [hx] at h1
        simp only [RepV] at h1
        rw [Array.getD_eq_getD_getElem?] at h1
        cases hq : a.tmps[d]? with
        | none => simp [yielded, hoj, hq]
        | some v =>
          rw [hq] at h1
          simp at h1
          subst h1
          simp [yielded, hoj, hq]
      · cases h
    · cases h

theorem fnOk_some {f : FuncId} (h : fnOk P f = true) : ∃ fn, P.funcs[f]? = some fn ∧ fn.body.isSome = true ∧ (fn.name == "runtime.NumGoroutine") = false := by
  unfold fnOk at h
  split at h
  · rename_i fn hf
    simp only [Bool.and_eq_true, Bool.not_eq_true'] at h
    exact ⟨fn, hf, h.1, h.2⟩
  · cases h

/-- One operation's step, in the world. -/
theorem AStep_sound {o : Oper} {K : AS → Prop} {Q : Exit → Act → World → Prop} {K' : Act → World → Prop} (hi : Inv N a w B0 base β st) (hd : dstOk N o) (h : AStep P o st K)
    (hk : ∀ a' w' β' st', Inv N a' w' B0 base β' st' → Ext w B0 β st.n st.H w' β' st'.n st'.H → K st' → K' a' w') : o.wp P a w K' Q := by
  unfold AStep at h
  have hput : ∀ (H' : AH) (n' : Nat) (v : AV), ((AS.mk st.t H' n').put o.dst v).H = H' ∧ ((AS.mk st.t H' n').put o.dst v).n = n' := by
    intro H' n' v; cases o.dst <;> exact ⟨rfl, rfl⟩
  split at h
  · rename_i c f hc
    have hoc : o.op = .call c ∧ c.callee = .value f := by
      unfold callsF at hc
      split at hc
      · rename_i c' h1
        split at hc
        · rename_i f' h2; cases hc; exact ⟨h1, h2⟩
        · cases hc
      · cases hc
    rcases h with h | h
    case inr =>
      obtain ⟨v, H', n', ⟨w', β', u, hrun, k1, k2, k3⟩, hK⟩ := h N a w B0 base β hi
      have hfin := hk _ _ β' ((AS.mk st.t H' n').put o.dst v) (hi.put hd k1 k2 k3) (by rw [(hput H' n' v).1, (hput H' n' v).2]; exact k2) hK
      unfold Oper.wp
      rcases hrun with hrun | ⟨hrun, rfl⟩
      · rw [hrun, Oper.upon_value]; exact hfin
      · rw [hrun, Oper.upon_skip]; exact hfin
    obtain ⟨g, cs, R, h1, h2, h3⟩ := h
    have hf := hi.ev f
    rw [h1] at hf
    simp only [RepV] at hf
    obtain ⟨vs, hv, hvs⟩ := hf
    obtain ⟨fn, f1, f2, f3⟩ := fnOk_some h2.1
    have hcall := h2.2 w B0 base β (c.args.toList.map a.eval ++ vs) hi.b0 hi.base hi.heap ((RepL_ev hi _).append hvs)
    have hexec : (execOp a.eval o).run P w = .ok (.enter g (c.args.toList.map a.eval ++ vs).toArray) w := by
      have e1 : (#[] ++ c.args.map a.eval) ++ vs.toArray = (c.args.toList.map a.eval ++ vs).toArray := by
        rw [← Array.toList_inj]; simp
      have f2' : ¬ fn.body = none := by cases hb : fn.body <;> simp [hb] at f2 ⊢
      have f3' : ¬ fn.name = "runtime.NumGoroutine" := by simpa using f3
      simp only [execOp, hoc.1, resolve, hoc.2, hv, Deferred.ofValue, Sem.run_bind, Sem.run_pure, Result.andThen_ok, invoke, callFunc]
      simp [program, Sem.run, f1, f3', f2', ← List.map_toArray]
    unfold Oper.wp
    rw [hexec, Oper.upon_enter]
    refine hcall.mono ?_
    rintro e w' ⟨β', n', H', r, v, rfl, k1, k2, k3, k4⟩
    refine hk _ _ β' ((AS.mk st.t H' n').put o.dst r) (hi.put hd k2 k1 k3) ?_ (h3 r H' n' k4)
    rw [(hput H' n' r).1, (hput H' n' r).2]
    exact k1
  · split at h
    · rename_i r hr
      obtain ⟨v, H', n'⟩ := r
      obtain ⟨w', β', u, hrun, k1, k2, k3⟩ := aop_sound hi hr
      have hfin := hk _ _ β' ((AS.mk st.t H' n').put o.dst v) (hi.put hd k1 k2 k3) (by rw [(hput H' n' v).1, (hput H' n' v).2]; exact k2) h
      unfold Oper.wp
      rcases hrun with hrun | ⟨hrun, rfl⟩
      · rw [hrun, Oper.upon_value]; exact hfin
      · rw [hrun, Oper.upon_skip]; exact hfin
    · obtain ⟨v, H', n', ⟨w', β', u, hrun, k1, k2, k3⟩, hK⟩ := h N a w B0 base β hi
      have hfin := hk _ _ β' ((AS.mk st.t H' n').put o.dst v) (hi.put hd k1 k2 k3) (by rw [(hput H' n' v).1, (hput H' n' v).2]; exact k2) hK
      unfold Oper.wp
      rcases hrun with hrun | ⟨hrun, rfl⟩
      · rw [hrun, Oper.upon_value]; exact hfin
      · rw [hrun, Oper.upon_skip]; exact hfin

theorem AOps_sound {ops : Array Oper} {K : AS → Prop} {Q : Exit → Act → World → Prop} {w0 : World} {β0 : Nat → Nat} {st0 : AS}
    (hk : ∀ a' w' β' st', Inv N a' w' B0 base β' st' → Ext w0 B0 β0 st0.n st0.H w' β' st'.n st'.H → K st' → Q .normal a' w') :
    ∀ (l : List Oper) (a : Act) (w : World) (β : Nat → Nat) (st : AS), dstsOk N l = true → Inv N a w B0 base β st → Ext w0 B0 β0 st0.n st0.H w β st.n st.H → AOps P (ops.toList.map (·.dst)) K l st → wpList P ops Q l a w
  | [], a, w, β, st, _, hi, he, h => hk a w β st hi he h
  | o :: rest, a, w, β, st, hds, hi, he, h => by
    obtain ⟨hd, hds⟩ := dstsOk_cons hds
    simp only [AOps] at h
    refine wpList_step fun K1 hK1 => ?_
    split at h
    · rename_i hw
      rw [if_pos (AWant_spec hi hw)]
      exact AStep_sound hi hd h fun a' w' β' st' h1 h2 h3 => hK1 _ _ (AOps_sound hk rest a' w' β' st' hds h1 (he.trans h2) h3)
    · rename_i hw
      rw [if_neg (by rw [AWant_spec hi hw]; simp)]
      have h1 := hi.put (d := o.dst) (v := .sc (.tuple #[])) (u := undef) hd hi.heap (Ext.refl _ _ _ _ _) (by simp only [RepV]; rfl)
      refine hK1 _ _ (AOps_sound hk rest _ w β _ hds h1 ?_ h)
      cases o.dst <;> exact he
    · exact h.elim

theorem AWP_region {id : Nat} {l : List Oper} {Q : Exit → AS → Prop} (hd : dstsOk N l = true) (h : AOps P (l.map (·.dst)) (Q .normal) l st) : AWP P N (.region id l.toArray false) Q st := by
  intro a w B0 base β hi
  refine wp_region_lit (AOps_sound (Q := APost N w B0 base β st Q) (w0 := w) (β0 := β) (st0 := st) (fun a' w' β' st' h1 h2 h3 => ⟨st', β', h1, h2, h3⟩) l a w β st hd hi (Ext.refl _ _ _ _ _) ?_)
  simpa using h

/-! ### A function's results -/
def ares1 (P : Program) (st : AS) : ResultVar → Option AV
  | .tmp t => some (st.t t)
  | .cell x t => aload P st.H t (st.t x)
def aresL (P : Program) (st : AS) : List ResultVar → Option (List AV)
  | [] => some []
  | r :: rs => (ares1 P st r).bind fun v => (aresL P st rs).bind fun vs => some (v :: vs)
def pack : List AV → AV
  | [v] => v
  | vs => .tup vs
def FPost (P : Program) (rs : List ResultVar) (R : AV → AH → Nat → Prop) : Exit → AS → Prop
  | .normal, st | .ret, st => ∃ vs, aresL P st rs = some vs ∧ R (pack vs) st.H st.n
  | _, _ => False

theorem ares1_run (hi : Inv N a w B0 base β st) {r : ResultVar} {v : AV} (h : ares1 P st r = some v) :
    ∃ u, (match r with | .tmp t => pure (a.tmps.getD t undef) | .cell x t => do loadVar t (← asAddr (a.tmps.getD x undef)) : Sem Value).run P w = .ok u w ∧ RepV w (Bad B0 β st.H) β st.n v u := by
  cases r with
  | tmp t =>
    simp only [ares1, Option.some.injEq] at h
    subst h
    exact ⟨_, by simp, hi.tmps t⟩
  | cell x t =>
    have hl : aop P st (.load t (.tmp x)) = some (v, st.H, st.n) := by
      simp only [aop, AS.ev]
      simp only [ares1] at h
      rw [h]; rfl
    let o : Oper := { (default : Oper) with op := .load t (.tmp x) }
    obtain ⟨w', β', u, hrun, k1, k2, k3⟩ := aop_sound (o := o) hi hl
    -- the load changes nothing: take it apart again
    simp only [ares1, aload] at h
    cases hT : tyOf P t with
    | none => simp [hT] at h
    | some T =>
      simp only [hT, Option.bind_some] at h
      have hx := hi.tmps x
      cases hv : st.t x <;> simp only [hv] at h <;> try (cases h; done)
      case ptr id z i off =>
        rw [hv] at hx
        simp only [RepV] at hx
        cases hH : st.H id with
        | none => simp [hH] at h
        | some ob =>
          cases ob with
          | map es => simp [hH] at h
          | obj t' z' es s =>
            simp only [hH] at h
            split at h
            · rename_i hz
              subst hz
              cases he : es[i]? with
              | none => simp [he] at h
              | some e =>
                simp only [he, Option.bind_some] at h
                obtain ⟨vs, h1, h2⟩ := (hi.heap.obj id t' z' es s hH).elem he
                obtain ⟨r, h3, h4⟩ := run_loadVar_ hT h1 h2 h
                refine ⟨r, ?_, h4⟩
                simp [hx.2, asAddr, h3]
            · simp at h
      case fp cs =>
        rw [hv] at hx
        simp only [RepV] at hx
        obtain ⟨b, p, hp, hf⟩ := hx
        obtain ⟨vs, h1, h2⟩ := hf.cells
        obtain ⟨r, h3, h4⟩ := run_loadVar_ hT h1 h2 h
        refine ⟨r, ?_, h4⟩
        rw [Nat.add_zero] at h3
        simp [hp, asAddr, h3]

theorem aresL_run (hi : Inv N a w B0 base β st) : ∀ {rs : List ResultVar} {vs : List AV}, aresL P st rs = some vs →
    ∃ us, (rs.mapM fun r => (match r with | .tmp t => pure (a.tmps.getD t undef) | .cell x t => do loadVar t (← asAddr (a.tmps.getD x undef)) : Sem Value)).run P w = .ok us w ∧ RepL w (Bad B0 β st.H) β st.n vs us
  | [], vs, h => by simp only [aresL, Option.some.injEq] at h; subst h; exact ⟨[], by simp, by simp only [RepL]⟩
  | r :: rs, vs, h => by
    simp only [aresL] at h
    cases h1 : ares1 P st r with
    | none => simp [h1] at h
    | some v =>
      simp only [h1, Option.bind_some] at h
      cases h2 : aresL P st rs with
      | none => simp [h2] at h
      | some vs' =>
        simp only [h2, Option.bind_some, Option.some.injEq] at h
        subst h
        obtain ⟨u, k1, k2⟩ := ares1_run hi h1
        obtain ⟨us, k3, k4⟩ := aresL_run hi h2
        refine ⟨u :: us, ?_, by simp only [RepL]; exact ⟨u, us, rfl, k2, k4⟩⟩
        rw [List.mapM_cons, Sem.run_bind, k1]
        simp only [Result.andThen_ok]
        rw [Sem.run_bind, k3]
        simp

theorem HCalls.intro {f : FuncId} {fn : Func} {c : Code} {args : List AV} {H : AH} {n : Nat} {R : AV → AH → Nat → Prop} (hf : P.funcs[f]? = some fn) (hb : fn.body = some c)
    (hn : (fn.name == "runtime.NumGoroutine") = false) (hN : args.length ≤ fn.ntmps)
    (h : AWP P fn.ntmps c (FPost P fn.results.toList R) ⟨fun i => args.getD i .any, H, n⟩) : HCalls P f args H n R := by
  refine ⟨by simp [fnOk, hf, hb]; simpa using hn, fun w B0 base β cargs h1 h2 h3 h4 => ?_⟩
  have hl := h4.len
  have hinv : Inv fn.ntmps { tmps := cargs.toArray ++ Array.replicate (fn.ntmps - cargs.toArray.size) undef, defers := [] } w B0 base β ⟨fun i => args.getD i .any, H, n⟩ := by
    refine ⟨by simp; omega, rfl, ?_, h3, h1, h2⟩
    intro i
    simp only
    by_cases hi : i < args.length
    · have hg : args[i]? = some (args.getD i .any) := by simp [List.getD_eq_getElem?_getD, hi]
      obtain ⟨u, k1, k2⟩ := h4.get i _ hg
      have : (cargs.toArray ++ Array.replicate (fn.ntmps - cargs.toArray.size) undef).getD i undef = u := by
        rw [Array.getD_eq_getD_getElem?, Array.getElem?_append, if_pos (by simp; omega)]
        simp [k1]
      rw [this]; exact k2
    · have hg : args.getD i .any = .any := by simp [List.getD_eq_getElem?_getD, Nat.le_of_not_lt hi]
      rw [hg]; simp only [RepV]
  refine calls_of_wp hf hb (wp_mono (h _ w B0 base β hinv) ?_)
  rintro e a' w' ⟨s, b, k1, k2, k3⟩
  have key : (∃ vs, aresL P s fn.results.toList = some vs ∧ R (pack vs) s.H s.n) → ∃ v, (results fn a'.tmps).run P w' = .ok v w' ∧
      ∃ β' n' H' r v', Ending.returned v = .returned v' ∧ Ext w B0 β n H w' β' n' H' ∧ HRep w' B0 base β' n' H' ∧ RepV w' (Bad B0 β' H') β' n' r v' ∧ R r H' n' := by
    rintro ⟨vs, hv, hR⟩
    obtain ⟨us, g1, g2⟩ := aresL_run k1 hv
    have hul := g2.len
    have hrun : (results fn a'.tmps).run P w' = .ok (if h : us.length = 1 then us[0] else .tuple us.toArray) w' := by
      unfold results
      rw [Array.mapM_eq_mapM_toList, map_eq_pure_bind, Sem.run_bind, Sem.run_bind]
      refine Eq.trans (congrArg (fun r => Result.andThen (Result.andThen r _) _) g1) ?_
      simp only [Result.andThen_ok, Sem.run_pure]
      congr 1
    refine ⟨_, hrun, b, s.n, s.H, pack vs, _, rfl, k2, k1.heap, ?_, hR⟩
    cases vs with
    | nil =>
      simp only [RepL] at g2
      subst g2
      simp only [pack, RepV, RepL]
      exact ⟨[], rfl, rfl⟩
    | cons v vs =>
      cases vs with
      | nil =>
        simp only [RepL] at g2
        obtain ⟨u, us', rfl, g3, rfl⟩ := g2
        simpa [pack] using g3
      | cons v' vs =>
        have h1 : ¬ us.length = 1 := by rw [hul]; simp
        rw [dif_neg h1]
        simp only [pack]
        rw [show RepV w' (Bad B0 b s.H) b s.n (.tup (v :: v' :: vs)) (.tuple us.toArray) = ∃ ws : List Value, Value.tuple us.toArray = .tuple ws.toArray ∧ RepL w' (Bad B0 b s.H) b s.n (v :: v' :: vs) ws by simp only [RepV]]
        exact ⟨us, rfl, g2⟩
  cases e with
  | normal => exact ⟨k1.defers, key k3⟩
  | ret => exact ⟨k1.defers, key k3⟩
  | exit id => exact k3.elim
  | goto l => exact k3.elim
  | panic ch => exact k3.elim
  | outgrown => exact k3.elim
end
end Go.Al

/- Values seen without objects; pure functions, shown and called. -/
namespace Go.Al

mutual
/-- Nothing in it is an object. -/
def noIds : AV → Bool
  | .sc _ => true
  | .any => true
  | .agg cs => noIdsL cs
  | .tup cs => noIdsL cs
  | .lst _ es => noIdsE es
  | .fp cs => noIdsL cs
  | .fn _ cs => noIdsL cs
  | _ => false
def noIdsL : List AV → Bool
  | [] => true
  | c :: cs => noIds c && noIdsL cs
def noIdsE : List (List AV) → Bool
  | [] => true
  | e :: es => noIdsL e && noIdsE es
end
theorem noIdsE_map {α : Type} (f : α → List AV) (h : ∀ x, noIdsL (f x) = true) : ∀ l : List α, noIdsE (l.map f) = true
  | [] => by simp [noIdsE]
  | x :: l => by simp [noIdsE, h, noIdsE_map f h l]
theorem noIdsE_append : ∀ l r : List (List AV), noIdsE (l ++ r) = (noIdsE l && noIdsE r)
  | [], r => by simp [noIdsE]
  | x :: l, r => by simp [noIdsE, noIdsE_append l r, Bool.and_assoc]

section
variable {w : World} {B : Nat → Nat → Prop} {β β' : Nat → Nat} {n n' : Nat}
mutual
theorem RepV.noIds : ∀ (a : AV) (v : Value), noIds a = true → RepV w B β n a v → RepV w B β' n' a v
  | .sc u, v, _, h => by simpa only [RepV] using h
  | .any, _, _, _ => by simp only [RepV]
  | .agg cs, v, k, h => by
    simp only [RepV] at h ⊢
    obtain ⟨vs, hv, h⟩ := h
    exact ⟨vs, hv, RepC.noIds cs vs (by simpa [Al.noIds] using k) h⟩
  | .tup cs, v, k, h => by
    simp only [RepV] at h ⊢
    obtain ⟨vs, hv, h⟩ := h
    exact ⟨vs, hv, RepL.noIds cs vs (by simpa [Al.noIds] using k) h⟩
  | .lst z es, v, k, h => by
    simp only [RepV] at h ⊢
    rcases h with h | ⟨b, o, c, hv, hc, h⟩
    · exact .inl h
    · exact .inr ⟨b, o, c, hv, hc, RepEs.noIds z b o es (by simpa [Al.noIds] using k) h⟩
  | .sl id z off m, v, k, h => by simp [Al.noIds] at k
  | .ptr id z i off, v, k, h => by simp [Al.noIds] at k
  | .fp cs, v, k, h => by
    simp only [RepV] at h ⊢
    obtain ⟨b, o, hv, h⟩ := h
    exact ⟨b, o, hv, RepF.noIds b o cs (by simpa [Al.noIds] using k) h⟩
  | .fn f cs, v, k, h => by
    simp only [RepV] at h ⊢
    obtain ⟨vs, hv, h⟩ := h
    exact ⟨vs, hv, RepL.noIds cs vs (by simpa [Al.noIds] using k) h⟩
  | .mp id, v, k, h => by simp [Al.noIds] at k
  | .slc id z off m c, v, k, h => by simp [Al.noIds] at k
theorem RepL.noIds : ∀ (cs : List AV) (vs : List Value), noIdsL cs = true → RepL w B β n cs vs → RepL w B β' n' cs vs
  | [], vs, _, h => by simpa only [RepL] using h
  | c :: cs, vs, k, h => by
    simp only [RepL] at h ⊢
    simp only [noIdsL, Bool.and_eq_true] at k
    obtain ⟨u, us, hv, h1, h2⟩ := h
    exact ⟨u, us, hv, RepV.noIds c u k.1 h1, RepL.noIds cs us k.2 h2⟩
theorem RepC.noIds : ∀ (cs : List AV) (vs : List Value), noIdsL cs = true → RepC w B β n cs vs → RepC w B β' n' cs vs
  | [], vs, _, h => by simpa only [RepC] using h
  | c :: cs, vs, k, h => by
    simp only [RepC] at h ⊢
    simp only [noIdsL, Bool.and_eq_true] at k
    obtain ⟨u, us, hv, h1, h0, h2⟩ := h
    exact ⟨u, us, hv, RepV.noIds c u k.1 h1, h0, RepC.noIds cs us k.2 h2⟩
theorem RepF.noIds (b o : Nat) : ∀ (cs : List AV), noIdsL cs = true → RepF w B β n b o cs → RepF w B β' n' b o cs
  | [], _, _ => by simp only [RepF]
  | c :: cs, k, h => by
    simp only [RepF] at h ⊢
    simp only [noIdsL, Bool.and_eq_true] at k
    obtain ⟨⟨u, hu, h1, h0⟩, hb, h2⟩ := h
    exact ⟨⟨u, hu, RepV.noIds c u k.1 h1, h0⟩, hb, RepF.noIds b (o + 1) cs k.2 h2⟩
theorem RepEs.noIds (z b o : Nat) : ∀ (es : List (List AV)), noIdsE es = true → RepEs w B β n z b o es → RepEs w B β' n' z b o es
  | [], _, _ => by simp only [RepEs]
  | e :: es, k, h => by
    simp only [RepEs] at h ⊢
    simp only [noIdsE, Bool.and_eq_true] at k
    exact ⟨h.1, RepF.noIds b o e k.1 h.2.1, RepEs.noIds z b (o + z) es k.2 h.2.2⟩
end
end

mutual
/-- Nothing in it lies in memory. -/
def flatV : AV → Bool
  | .sc _ => true
  | .any => true
  | .agg cs => flatL cs
  | .tup cs => flatL cs
  | _ => false
def flatL : List AV → Bool
  | [] => true
  | c :: cs => flatV c && flatL cs
end
section
variable {w w' : World} {B B' : Nat → Nat → Prop} {β β' : Nat → Nat} {n n' : Nat}
mutual
theorem RepV.flat : ∀ (a : AV) (v : Value), flatV a = true → RepV w B β n a v → RepV w' B' β' n' a v
  | .sc u, v, _, h => by simpa only [RepV] using h
  | .any, _, _, _ => by simp only [RepV]
  | .agg cs, v, k, h => by
    simp only [RepV] at h ⊢
    obtain ⟨vs, hv, h⟩ := h
    exact ⟨vs, hv, RepC.flat cs vs (by simpa [flatV] using k) h⟩
  | .tup cs, v, k, h => by
    simp only [RepV] at h ⊢
    obtain ⟨vs, hv, h⟩ := h
    exact ⟨vs, hv, RepL.flat cs vs (by simpa [flatV] using k) h⟩
  | .lst z es, v, k, h => by simp [flatV] at k
  | .sl id z off m, v, k, h => by simp [flatV] at k
  | .ptr id z i off, v, k, h => by simp [flatV] at k
  | .fp cs, v, k, h => by simp [flatV] at k
  | .fn f cs, v, k, h => by simp [flatV] at k
  | .mp id, v, k, h => by simp [flatV] at k
  | .slc id z off m c, v, k, h => by simp [flatV] at k
theorem RepL.flat : ∀ (cs : List AV) (vs : List Value), flatL cs = true → RepL w B β n cs vs → RepL w' B' β' n' cs vs
  | [], vs, _, h => by simpa only [RepL] using h
  | c :: cs, vs, k, h => by
    simp only [RepL] at h ⊢
    simp only [flatL, Bool.and_eq_true] at k
    obtain ⟨u, us, hv, h1, h2⟩ := h
    exact ⟨u, us, hv, RepV.flat c u k.1 h1, RepL.flat cs us k.2 h2⟩
theorem RepC.flat : ∀ (cs : List AV) (vs : List Value), flatL cs = true → RepC w B β n cs vs → RepC w' B' β' n' cs vs
  | [], vs, _, h => by simpa only [RepC] using h
  | c :: cs, vs, k, h => by
    simp only [RepC] at h ⊢
    simp only [flatL, Bool.and_eq_true] at k
    obtain ⟨u, us, hv, h1, h0, h2⟩ := h
    exact ⟨u, us, hv, RepV.flat c u k.1 h1, h0, RepC.flat cs us k.2 h2⟩
end
end

/-- A value seen as it now stands, without objects: sealed ones only, or any. -/
def seen (H : AH) (loose : Bool) : Nat → AV → Option AV
  | 0, _ => none
  | k + 1, a => match a with
    | .sl id z off m => match H id with
      | some (.obj _ z2 es s) => if z2 = z ∧ off + m ≤ es.length ∧ (s || loose) = true then
          (if noIdsE ((es.drop off).take m) then some (.lst z ((es.drop off).take m)) else (((es.drop off).take m).mapM fun (e : List AV) => e.mapM (seen H loose k)).map (.lst z)) else none
      | _ => none
    | .agg cs => (cs.mapM (seen H loose k)).map .agg
    | .tup cs => (cs.mapM (seen H loose k)).map .tup
    | a => if noIds a then some a else none

section
variable {P : Program} {w : World} {B Bx : Nat → Nat → Prop} {B0 : Nat → Nat → Prop} {base : Nat} {β : Nat → Nat} {n : Nat} {H : AH}

theorem mapM_C {f : AV → Option AV} (hf : ∀ a v a', f a = some a' → RepV w B β n a v → RepV w Bx β n a' v) : ∀ (cs cs' : List AV) (vs : List Value), cs.mapM f = some cs' → RepC w B β n cs vs → RepC w Bx β n cs' vs
  | [], cs', vs, h, k => by simp at h; subst h; simpa only [RepC] using k
  | c :: cs, cs', vs, h, k => by
    simp only [List.mapM_cons] at h
    cases h1 : f c with
    | none => simp [h1] at h
    | some c' =>
      cases h2 : cs.mapM f with
      | none => simp [h1, h2] at h
      | some r =>
        simp [h1, h2] at h
        subst h
        simp only [RepC] at k ⊢
        obtain ⟨u, us, hv, k1, k0, k2⟩ := k
        exact ⟨u, us, hv, hf _ _ _ h1 k1, k0, mapM_C hf cs r us h2 k2⟩
theorem mapM_L {f : AV → Option AV} (hf : ∀ a v a', f a = some a' → RepV w B β n a v → RepV w Bx β n a' v) : ∀ (cs cs' : List AV) (vs : List Value), cs.mapM f = some cs' → RepL w B β n cs vs → RepL w Bx β n cs' vs
  | [], cs', vs, h, k => by simp at h; subst h; simpa only [RepL] using k
  | c :: cs, cs', vs, h, k => by
    simp only [List.mapM_cons] at h
    cases h1 : f c with
    | none => simp [h1] at h
    | some c' =>
      cases h2 : cs.mapM f with
      | none => simp [h1, h2] at h
      | some r =>
        simp [h1, h2] at h
        subst h
        simp only [RepL] at k ⊢
        obtain ⟨u, us, hv, k1, k2⟩ := k
        exact ⟨u, us, hv, hf _ _ _ h1 k1, mapM_L hf cs r us h2 k2⟩
theorem mapM_len {α γ : Type} {f : α → Option γ} : ∀ (l : List α) (r : List γ), l.mapM f = some r → r.length = l.length
  | [], r, h => by simp at h; subst h; rfl
  | x :: l, r, h => by
    simp only [List.mapM_cons] at h
    cases h1 : f x with
    | none => simp [h1] at h
    | some y =>
      cases h2 : l.mapM f with
      | none => simp [h1, h2] at h
      | some r' => simp [h1, h2] at h; subst h; simp [mapM_len l r' h2]

/-- Cells out of values that lie there. -/
theorem RepF.of_cells : ∀ {cs : List AV} {vs : List Value} {b o : Nat}, RepC w B β n cs vs → (∀ j u, vs[j]? = some u → w.cell? ⟨b, o + j, none⟩ = some u) → (∀ j, j < cs.length → ¬ Bx b (o + j)) → Pres w B w Bx → RepF w Bx β n b o cs
  | [], _, _, _, _, _, _, _ => by simp only [RepF]
  | c :: cs, vs, b, o, h, hc, hb, hp => by
    simp only [RepC] at h
    obtain ⟨u, us, rfl, h1, h0, h2⟩ := h
    simp only [RepF]
    refine ⟨⟨u, by simpa using hc 0 u rfl, h1.mono hp (fun _ _ => rfl) (Nat.le_refl _), h0⟩, by simpa using hb 0 (by simp), ?_⟩
    refine RepF.of_cells h2 (fun j v hv => ?_) (fun j hj => ?_) hp
    · rw [Nat.add_assoc, Nat.add_comm 1 j]; exact hc (j + 1) v (by simpa using hv)
    · rw [Nat.add_assoc, Nat.add_comm 1 j]; exact hb (j + 1) (by simpa using hj)

theorem seen_rep (hh : HRep w B0 base β n H) {loose : Bool} (hp : Pres w (Bad B0 β H) w Bx)
    (hx : ∀ id t z es s, H id = some (.obj t z es s) → (s || loose) = true → ∀ o, o < es.length * z → ¬ Bx (β id) o) :
    ∀ (k : Nat) (a a' : AV) (v : Value), seen H loose k a = some a' → RepV w (Bad B0 β H) β n a v → RepV w Bx β n a' v
  | 0, _, _, _, h, _ => by simp [seen] at h
  | k + 1, a, a', v, h, hr => by
    have ih := fun a v a' h hr => seen_rep hh hp hx k a a' v h hr
    have hm : ∀ (a : AV), RepV w (Bad B0 β H) β n a v → RepV w Bx β n a v := fun a h => h.mono hp (fun _ _ => rfl) (Nat.le_refl _)
    simp only [seen] at h
    split at h
    · rename_i id z off m
      split at h
      · rename_i t z2 es s hH
        split at h
        · rename_i hc
          obtain ⟨rfl, hc1, hc2⟩ := hc
          simp only [RepV] at hr
          obtain ⟨hid, c, o, rfl, h1, h2, h3, h4⟩ := hr
          have hlen : ((es.drop off).take m).length = m := by simp; omega
          have hone : ∀ i e, ((es.drop off).take m)[i]? = some e → ∃ vs, RepC w (Bad B0 β H) β n e vs ∧ e.length = z2 ∧ i < m ∧ ∀ j u, vs[j]? = some u → w.cell? ⟨β id, (off + i) * z2 + j, none⟩ = some u := by
            intro i e he
            have hi : i < m := by have := (List.getElem?_eq_some_iff.1 he).1; omega
            rw [List.getElem?_take, if_pos hi, List.getElem?_drop] at he
            obtain ⟨vs, k1, k2⟩ := (hh.obj id _ _ _ _ hH).elem he
            obtain ⟨cur, cap, _, _, _, _, _, g6⟩ := hh.obj id _ _ _ _ hH
            exact ⟨vs, k1, g6 e (List.mem_of_getElem? he), hi, k2⟩
          have key : ∀ (es' : List (List AV)), es'.length = m → (∀ i e', es'[i]? = some e' → ∃ e vs, ((es.drop off).take m)[i]? = some e ∧ RepC w (Bad B0 β H) β n e vs ∧ RepC w Bx β n e' vs ∧ e'.length = z2 ∧ ∀ j u, vs[j]? = some u → w.cell? ⟨β id, (off + i) * z2 + j, none⟩ = some u) →
              RepV w Bx β n (.lst z2 es') (.slice (some ⟨β id, o, none⟩) m c) := by
            intro es' hl hes
            simp only [RepV]
            right
            refine ⟨β id, o, c, by rw [hl], by omega, ?_⟩
            by_cases hm0 : m = 0
            · have : es' = [] := List.eq_nil_of_length_eq_zero (by omega)
              subst this
              simp only [RepEs]
            · have ho : o = off * z2 := h2 (.inl hm0)
              subst ho
              have gen : ∀ (l : List (List AV)) (i : Nat), es'.drop i = l → i ≤ m → RepEs w Bx β n z2 (β id) ((off + i) * z2) l := by
                intro l
                induction l with
                | nil => intro i _ _; simp only [RepEs]
                | cons e' l ihl =>
                  intro i hi him
                  have hei : es'[i]? = some e' := by
                    have := congrArg (fun q => q[0]?) hi
                    simpa using this
                  obtain ⟨e, vs, g1, g2, g3, g4, g5⟩ := hes i e' hei
                  have hilt : i < m := by have := (List.getElem?_eq_some_iff.1 hei).1; omega
                  have hbx : ∀ j, j < e'.length → ¬ Bx (β id) ((off + i) * z2 + j) := by
                    intro j hj
                    refine hx id _ _ _ _ hH hc2 _ ?_
                    have : (off + i + 1) * z2 ≤ es.length * z2 := Nat.mul_le_mul_right _ (by omega)
                    rw [Nat.succ_mul] at this
                    omega
                  simp only [RepEs]
                  refine ⟨g4, RepF.of_cells (B := Bx) g3 g5 hbx (Pres.refl _ _), ?_⟩
                  have := ihl (i + 1) (by rw [← List.drop_drop, hi]; rfl) (by omega)
                  rwa [show (off + (i + 1)) * z2 = (off + i) * z2 + z2 by rw [← Nat.add_assoc, Nat.succ_mul]] at this
              have := gen es' 0 (by simp) (by omega)
              simpa using this
          split at h
          · cases h
            refine key _ hlen (fun i e' he' => ?_)
            obtain ⟨vs, k1, k2, k3, k4⟩ := hone i e' he'
            exact ⟨e', vs, he', k1, k1.mono hp (fun _ _ => rfl) (Nat.le_refl _), k2, k4⟩
          · cases hmm : ((es.drop off).take m).mapM fun (e : List AV) => e.mapM (seen H loose k) with
            | none => simp [hmm] at h
            | some es' =>
              simp only [hmm, Option.map_some, Option.some.injEq] at h
              subst h
              refine key es' (by rw [mapM_len _ _ hmm, hlen]) (fun i e' he' => ?_)
              have : ∀ (l : List (List AV)) (l' : List (List AV)), (l.mapM fun (e : List AV) => e.mapM (seen H loose k)) = some l' → ∀ (i : Nat) (e' : List AV), l'[i]? = some e' → ∃ e : List AV, l[i]? = some e ∧ e.mapM (seen H loose k) = some e' := by
                intro l
                induction l with
                | nil => intro l' h i e' he; simp at h; subst h; simp at he
                | cons x l ih2 =>
                  intro l' h i e' he
                  simp only [List.mapM_cons] at h
                  cases h1 : x.mapM (seen H loose k) with
                  | none => simp [h1] at h
                  | some x' =>
                    cases h2 : l.mapM fun (e : List AV) => e.mapM (seen H loose k) with
                    | none => simp [h1, h2] at h
                    | some r =>
                      simp [h1, h2] at h
                      subst h
                      cases i with
                      | zero => simp at he; subst he; exact ⟨x, rfl, h1⟩
                      | succ i => simpa using ih2 r h2 i e' (by simpa using he)
              obtain ⟨e, k1, k2⟩ := this _ _ hmm i e' he'
              obtain ⟨vs, g1, g2, g3, g4⟩ := hone i e k1
              exact ⟨e, vs, k1, g1, mapM_C ih e e' vs k2 g1, by rw [mapM_len _ _ k2, g2], g4⟩
        · cases h
      · cases h
    · rename_i cs
      cases hmm : cs.mapM (seen H loose k) with
      | none => simp [hmm] at h
      | some cs' =>
        simp only [hmm, Option.map_some, Option.some.injEq] at h
        subst h
        simp only [RepV] at hr ⊢
        obtain ⟨vs, hv, hr⟩ := hr
        exact ⟨vs, hv, mapM_C ih cs cs' vs hmm hr⟩
    · rename_i cs
      cases hmm : cs.mapM (seen H loose k) with
      | none => simp [hmm] at h
      | some cs' =>
        simp only [hmm, Option.map_some, Option.some.injEq] at h
        subst h
        simp only [RepV] at hr ⊢
        obtain ⟨vs, hv, hr⟩ := hr
        exact ⟨vs, hv, mapM_L ih cs cs' vs hmm hr⟩
    · split at h
      · cases h
        exact hm _ hr
      · cases h

mutual
theorem seen_noIds {loose : Bool} : ∀ (k : Nat) (a a' : AV), seen H loose k a = some a' → noIds a' = true
  | 0, _, _, h => by simp [seen] at h
  | k + 1, a, a', h => by
    simp only [seen] at h
    split at h
    · split at h
      · split at h
        · split at h
          · rename_i hn; cases h; simpa [noIds] using hn
          · obtain ⟨es', hmm, rfl⟩ := Option.map_eq_some_iff.1 h
            simp only [noIds]; exact seen_noIdsE k _ _ hmm
        · cases h
      · cases h
    · rename_i cs
      cases hmm : cs.mapM (seen H loose k) with
      | none => simp [hmm] at h
      | some cs' => simp only [hmm, Option.map_some, Option.some.injEq] at h; subst h; simp only [noIds]; exact seen_noIdsL k _ _ hmm
    · rename_i cs
      cases hmm : cs.mapM (seen H loose k) with
      | none => simp [hmm] at h
      | some cs' => simp only [hmm, Option.map_some, Option.some.injEq] at h; subst h; simp only [noIds]; exact seen_noIdsL k _ _ hmm
    · split at h
      · rename_i hn; cases h; exact hn
      · cases h
theorem seen_noIdsL {loose : Bool} (k : Nat) : ∀ (cs cs' : List AV), cs.mapM (seen H loose k) = some cs' → noIdsL cs' = true
  | [], cs', h => by simp at h; subst h; simp [noIdsL]
  | c :: cs, cs', h => by
    simp only [List.mapM_cons] at h
    cases h1 : seen H loose k c with
    | none => simp [h1] at h
    | some c' =>
      cases h2 : cs.mapM (seen H loose k) with
      | none => simp [h1, h2] at h
      | some r =>
        simp [h1, h2] at h
        subst h
        simp [noIdsL, seen_noIds k _ _ h1, seen_noIdsL k _ _ h2]
theorem seen_noIdsE {loose : Bool} (k : Nat) : ∀ (es es' : List (List AV)), (es.mapM fun (e : List AV) => e.mapM (seen H loose k)) = some es' → noIdsE es' = true
  | [], es', h => by simp at h; subst h; simp [noIdsE]
  | e :: es, es', h => by
    simp only [List.mapM_cons] at h
    cases h1 : e.mapM (seen H loose k) with
    | none => simp [h1] at h
    | some e' =>
      cases h2 : es.mapM fun (e : List AV) => e.mapM (seen H loose k) with
      | none => simp [h1, h2] at h
      | some r =>
        simp [h1, h2] at h
        subst h
        simp [noIdsE, seen_noIdsL k _ _ h1, seen_noIdsE k _ _ h2]
end

theorem loose_ok (hh : HRep w B0 base β n H) (h0 : ∀ b o, B0 b o → b < base) : Pres w (Bad B0 β H) w B0 ∧
    ∀ id t z es s, H id = some (.obj t z es s) → (s || true) = true → ∀ o, o < es.length * z → ¬ B0 (β id) o :=
  ⟨⟨fun b o u hu hb => ⟨hu, fun k => hb (.inl k)⟩, fun _ _ h => h⟩, fun id t z es s hH _ o _ hB => by have := h0 _ _ hB; have := (hh.own id _ hH).1; omega⟩
theorem strict_ok (hh : HRep w B0 base β n H) (h0 : ∀ b o, B0 b o → b < base) : Pres w (Bad B0 β H) w (Bad B0 β H) ∧
    ∀ id t z es s, H id = some (.obj t z es s) → (s || false) = true → ∀ o, o < es.length * z → ¬ Bad B0 β H (β id) o := by
  refine ⟨Pres.refl _ _, fun id t z es s hH hs o ho hB => ?_⟩
  rcases hB with hB | ⟨i, t', z', es', s', h1, h2, h3⟩
  · have := h0 _ _ hB; have := (hh.own id _ hH).1; omega
  · have e := hh.inj i id _ _ h1 hH h2
    subst e
    rw [hH] at h1
    cases h1
    simp at hs
    subst hs
    rcases h3 with h3 | h3
    · cases h3
    · omega

/-- A pure function, shown: a walk in a heap of its own, whose answer, seen, is r. -/
theorem PCalls.intro {f : FuncId} {fn : Func} {c : Code} {args : List AV} {r : AV} (hf : P.funcs[f]? = some fn) (hb : fn.body = some c)
    (hn : (fn.name == "runtime.NumGoroutine") = false) (hN : args.length ≤ fn.ntmps)
    (h : ∀ n, AWP P fn.ntmps c (FPost P fn.results.toList fun v H _ => ∃ k, seen H true k v = some r) ⟨fun i => args.getD i .any, H0, n⟩) : PCalls P f args r := by
  refine PCalls.of_h fun n => (HCalls.intro hf hb hn hN (h n)).mono ?_
  rintro r' H' n' ⟨k, hs⟩ w B0 base β' v h0 hh hv β hag
  obtain ⟨h1, h2⟩ := loose_ok hh h0
  exact RepV.noIds _ _ (seen_noIds k _ _ hs) (seen_rep hh h1 h2 k _ _ _ hs hv)

/-- A pure function, called with values that are seen. -/
theorem PCalls.seen {f : FuncId} {args args' : List AV} {r : AV} (h : PCalls P f args' r) {n : Nat} (k : Nat) (hs : args.mapM (seen H false k) = some args') :
    HCalls P f args H n fun r' H' n' => r' = r ∧ H' = H ∧ n' = n := by
  refine ⟨h.1, fun w B0 base β cargs h1 h2 h3 h4 => ?_⟩
  obtain ⟨g1, g2⟩ := strict_ok h3 h1
  have h4' := mapM_L (fun a v a' hs hr => seen_rep h3 g1 g2 k a a' v hs hr) args args' cargs hs h4
  exact (h.here H n).2 w B0 base β cargs h1 h2 h3 h4'
theorem PCalls.seenL {f : FuncId} {args args' : List AV} {r : AV} (h : PCalls P f args' r) {n : Nat} (k : Nat) (hs : args.mapM (Al.seen H true k) = some args') (hr : flatV r = true) :
    HCalls P f args H n fun r' H' n' => r' = r ∧ H' = H ∧ n' = n := by
  refine ⟨h.1, fun w B0 base β cargs h1 h2 h3 h4 => ?_⟩
  obtain ⟨g1, g2⟩ := loose_ok h3 h1
  have h4' := mapM_L (fun a v a' hs hr => seen_rep h3 g1 g2 k a a' v hs hr) args args' cargs hs h4
  refine (h.2 w B0 β n cargs (fun b o hb => Nat.lt_of_lt_of_le (h1 b o hb) h2) h4').mono ?_
  rintro e w' ⟨v, rfl, hb, hv⟩
  exact ⟨β, n, H, r, v, rfl, Ext.of_below hb, h3.below hb, RepV.flat _ _ hr hv, rfl, rfl, rfl⟩

/-- A call of a pure function. -/
theorem ACall.pure {st : AS} {c : Call} {f : Operand} {g : FuncId} {args' : List AV} {r : AV} {K : AV → AH → Nat → Prop} (k : Nat) (hf : st.ev f = .fn g []) (hs : (c.args.toList.map st.ev).mapM (Al.seen st.H false k) = some args')
    (h : PCalls P g args' r) (hk : K r st.H st.n) : ACall P st c f K :=
  ⟨g, [], _, hf, h.seen (n := st.n) k (by rw [List.append_nil]; exact hs), fun r' H' n' ⟨e1, e2, e3⟩ => by rw [e1, e2, e3]; exact hk⟩
theorem ACall.loose {st : AS} {c : Call} {f : Operand} {g : FuncId} {args' : List AV} {r : AV} {K : AV → AH → Nat → Prop} (k : Nat) (hf : st.ev f = .fn g []) (hs : (c.args.toList.map st.ev).mapM (Al.seen st.H true k) = some args')
    (h : PCalls P g args' r) (hr : flatV r = true) (hk : K r st.H st.n) : ACall P st c f K :=
  ⟨g, [], _, hf, h.seenL (n := st.n) k (by rw [List.append_nil]; exact hs) hr, fun r' H' n' ⟨e1, e2, e3⟩ => by rw [e1, e2, e3]; exact hk⟩
end
end Go.Al

/- Code, told as one proposition. -/
namespace Go.Al

/-- A region that draws its order: told by a rule of its own. -/
def ADraw (P : Program) (N : Nat) (id : Nat) (ops : Array Oper) (Q : Exit → AS → Prop) [Tok (ops, Q)] (st : AS) : Prop := AWP P N (.region id ops true) Q st
/-- A loop: by what holds at each round's begin, and what falls. -/
def ALoop (P : Program) (N : Nat) (c : Code) (Q : Exit → AS → Prop) [Tok (c, Q)] (st : AS) : Prop := AWP P N (.loop c) Q st
def ACond (b : AV) (x y : AS → Prop) [Tok (x, y)] (st : AS) : Prop := ∃ t : Bool, b = .sc (.bool t) ∧ (t = true → x st) ∧ (t = false → y st)

/-- What code comes to. -/
def axd (P : Program) (N : Nat) : Code → (Exit → AS → Prop) → AS → Prop
  | .skip, Q, st => Q .normal st
  | .label _, Q, st => Q .normal st
  | .ret, Q, st => Q .ret st
  | .exit id, Q, st => Q (.exit id) st
  | .seq x y, Q, st => axd P N x (AThen (axd P N y Q) Q) st
  | .cond c x y, Q, st => ACond (st.ev c) (axd P N x Q) (axd P N y Q) st
  | .block id c, Q, st => axd P N c (ABlock id Q) st
  | .region id ops false, Q, st => dstsOk N ops.toList = true ∧ AOps P (ops.toList.map (·.dst)) (Q .normal) ops.toList st
  | .region id ops true, Q, st => ADraw P N id ops Q st
  | .loop c, Q, st => ALoop P N c Q st
  | .scope c, Q, st => axd P N c (AScope Q) st
  | _, _, _ => False

/-- The same, kept shut: only its equations open it. -/
def axF (P : Program) (N : Nat) (c : Code) (Q : Exit → AS → Prop) [Tok (c, Q)] : AS → Prop := axd P N c Q
def ax : (P : Program) → (N : Nat) → (c : Code) → (Q : Exit → AS → Prop) → [Tok (c, Q)] → AS → Prop := Classical.choose (⟨@axF, rfl⟩ : ∃ f, f = @axF)
theorem ax_eqF : @ax = @axF := Classical.choose_spec (⟨@axF, rfl⟩ : ∃ f, f = @axF)
theorem ax_eq {P : Program} {N : Nat} {c : Code} {Q : Exit → AS → Prop} : ax P N c Q = axd P N c Q := by rw [ax_eqF]; rfl
def AOpsB : Program → List (Option Nat) → (AS → Prop) → List Oper → AS → Prop := Classical.choose (⟨AOps, rfl⟩ : ∃ f, f = AOps)
theorem AOpsB_eq : AOpsB = AOps := Classical.choose_spec (⟨AOps, rfl⟩ : ∃ f, f = AOps)

section
variable {P : Program} {N : Nat} {Q : Exit → AS → Prop} {st : AS}
theorem ax_skip : ax P N .skip Q st = Q .normal st := by rw [ax_eq, axd]
theorem ax_label {n : Nat} : ax P N (.label n) Q st = Q .normal st := by rw [ax_eq, axd]
theorem ax_ret : ax P N .ret Q st = Q .ret st := by rw [ax_eq, axd]
theorem ax_exit {id : Nat} : ax P N (.exit id) Q st = Q (.exit id) st := by rw [ax_eq, axd]
theorem ax_seq {x y : Code} : ax P N (.seq x y) Q st = ax P N x (AThen (ax P N y Q) Q) st := by rw [ax_eqF]; rfl
theorem ax_cond {c : Operand} {x y : Code} : ax P N (.cond c x y) Q st = ACond (st.ev c) (ax P N x Q) (ax P N y Q) st := by rw [ax_eqF]; rfl
theorem ax_block {id : Nat} {c : Code} : ax P N (.block id c) Q st = ax P N c (ABlock id Q) st := by rw [ax_eqF]; rfl
theorem ax_region {id : Nat} {ops : Array Oper} : ax P N (.region id ops false) Q st = (dstsOk N ops.toList = true ∧ AOpsB P (ops.toList.map (·.dst)) (Q .normal) ops.toList st) := by rw [ax_eq, axd, AOpsB_eq]
theorem ax_draw {id : Nat} {ops : Array Oper} : ax P N (.region id ops true) Q st = ADraw P N id ops Q st := by rw [ax_eq, axd]
theorem ax_loop {c : Code} : ax P N (.loop c) Q st = ALoop P N c Q st := by rw [ax_eq, axd]
theorem ax_scope {c : Code} : ax P N (.scope c) Q st = ax P N c (AScope Q) st := by rw [ax_eqF]; rfl
theorem AOps_nil {G : List (Option Nat)} {K : AS → Prop} : AOpsB P G K [] st = K st := by rw [AOpsB_eq, AOps]
theorem AOps_cons {G : List (Option Nat)} {K : AS → Prop} {o : Oper} {l : List Oper} : AOpsB P G K (o :: l) st = (match AWant G o st with
    | some true => AStep P o st (AOpsB P G K l)
    | some false => AOpsB P G K l (st.put o.dst (.sc (.tuple #[])))
    | none => False) := by rw [AOpsB_eq, AOps]
end
section
variable {P : Program} {N : Nat}
theorem axd_sound : ∀ (c : Code) (Q : Exit → AS → Prop) (st : AS), axd P N c Q st → AWP P N c Q st
  | .skip, Q, st, h => AWP_skip h
  | .label _, Q, st, h => AWP_label h
  | .ret, Q, st, h => AWP_ret h
  | .exit id, Q, st, h => AWP_exit h
  | .seq x y, Q, st, h => by
    simp only [axd] at h
    refine AWP_seq ((axd_sound x _ st h).mono fun e s hs => ?_)
    cases e <;> simp only [AThen] at hs ⊢
    case normal => exact axd_sound y Q s hs
    all_goals exact hs
  | .cond c x y, Q, st, h => by
    simp only [axd, ACond] at h
    obtain ⟨t, h1, h2, h3⟩ := h
    exact AWP_cond t h1 (fun e => axd_sound x Q st (h2 e)) (fun e => axd_sound y Q st (h3 e))
  | .block id c, Q, st, h => AWP_block (axd_sound c _ st h)
  | .region id ops false, Q, st, h => by
    simp only [axd] at h
    have := AWP_region (P := P) (id := id) (l := ops.toList) h.1 h.2
    simpa using this
  | .region id ops true, Q, st, h => h
  | .loop c, Q, st, h => h
  | .scope c, Q, st, h => AWP_scope (axd_sound c _ st h)
  | .goto _, _, _, h => h.elim
  | .refuse _, _, _, h => h.elim
  | .rangeFunc _ _ _ _, _, _, h => h.elim

theorem ax_sound (c : Code) (Q : Exit → AS → Prop) (st : AS) (h : ax P N c Q st) : AWP P N c Q st := axd_sound c Q st (by rw [← ax_eq]; exact h)
theorem ACond.intro {x y : AS → Prop} {st : AS} (t : Bool) (h1 : t = true → x st) (h2 : t = false → y st) : ACond (.sc (.bool t)) x y st := ⟨t, rfl, h1, h2⟩
theorem ACond_true {x y : AS → Prop} {st : AS} : ACond (.sc (.bool true)) x y st = x st := by
  simp [ACond]
theorem ACond_false {x y : AS → Prop} {st : AS} : ACond (.sc (.bool false)) x y st = y st := by
  simp [ACond]
theorem ACallK.pure {o : Oper} {st : AS} {c : Call} {f : Operand} {g : FuncId} {args' : List AV} {r : AV} {d : Option Nat} {K : AS → Prop} (k : Nat) (hf : st.ev f = .fn g []) (hs : (c.args.toList.map st.ev).mapM (Al.seen st.H false k) = some args')
    (h : PCalls P g args' r) (hk : K (st.put d r)) : ACallK P o st c f d K := .inl (ACall.pure k hf hs h hk)
/-- A call by a contract that tells the heap. -/
theorem ACallK.heap {o : Oper} {st : AS} {c : Call} {f : Operand} {g : FuncId} {cs : List AV} {d : Option Nat} {K : AS → Prop} (R : AV → AH → Nat → Prop) (hf : st.ev f = .fn g cs) (h : HCalls P g (c.args.toList.map st.ev ++ cs) st.H st.n R)
    (hk : ∀ r H' n', R r H' n' → K ((AS.mk st.t H' n').put d r)) : ACallK P o st c f d K := .inl ⟨g, cs, R, hf, h, hk⟩
theorem ACallK.loose {o : Oper} {st : AS} {c : Call} {f : Operand} {g : FuncId} {args' : List AV} {r : AV} {d : Option Nat} {K : AS → Prop} (k : Nat) (hf : st.ev f = .fn g []) (hs : (c.args.toList.map st.ev).mapM (Al.seen st.H true k) = some args')
    (h : PCalls P g args' r) (hr : flatV r = true) (hk : K (st.put d r)) : ACallK P o st c f d K := .inl (ACall.loose k hf hs h hr hk)
theorem unary_not (b : Bool) : pureOf (Op.unary .not (.bool b)) = some (.bool !b) := rfl
theorem unary_neg (k : IntKind) (n : Int) : pureOf (Op.unary .neg (.int k n)) = some (.int k (k.wrap (0 - n))) := rfl
theorem endsc (H : AH) (v : Value) : ∃ vs, ([AV.sc v] = vs) ∧ ∃ k, seen H true k (match vs with | [v] => v | vs => AV.tup vs) = some (.sc v) := ⟨_, rfl, 1, rfl⟩
theorem endno (H : AH) (v : AV) (h : seen H true 1 v = some v) : ∃ vs, ([v] = vs) ∧ ∃ k, seen H true k (match vs with | [v] => v | vs => AV.tup vs) = some v := ⟨_, rfl, 1, h⟩
/-- Keeps a statement about every value apart from its use at a great number. -/
theorem aside (p : Prop) (h : p) : p := h
theorem ALoop.intro {c : Code} {Q : Exit → AS → Prop} {st : AS} (I : Nat → AS → Prop) (k : Nat) (h0 : I k st)
    (round : ∀ k s, I k s → ax P N c (AThen (fun s' => ∃ k', k' < k ∧ I k' s') Q) s) : ALoop P N c Q st :=
  AWP_loop I k h0 fun k s h => ax_sound c _ s (round k s h)

theorem HCalls.walk {f : FuncId} {fn : Func} {c : Code} {args : List AV} {H : AH} {n N : Nat} {rs : Array ResultVar} {R : AV → AH → Nat → Prop} (hf : P.funcs[f]? = some fn) (hb : fn.body = some c)
    (hn : (fn.name == "runtime.NumGoroutine") = false) (ht : fn.ntmps = N) (hr : fn.results = rs) (hN : args.length ≤ N)
    (h : ax P N c (FPost P rs.toList R) ⟨fun i => args.getD i .any, H, n⟩) : HCalls P f args H n R := by
  subst ht; subst hr
  exact HCalls.intro hf hb hn hN (ax_sound c _ _ h)
theorem PCalls.walk {f : FuncId} {fn : Func} {c : Code} {args : List AV} {r : AV} {N : Nat} {rs : Array ResultVar} (hf : P.funcs[f]? = some fn) (hb : fn.body = some c)
    (hn : (fn.name == "runtime.NumGoroutine") = false) (ht : fn.ntmps = N) (hr : fn.results = rs) (hN : args.length ≤ N)
    (h : ∀ n, ax P N c (FPost P rs.toList fun v H _ => ∃ k, Al.seen H true k v = some r) ⟨fun i => args.getD i .any, H0, n⟩) : PCalls P f args r := by
  subst ht; subst hr
  exact PCalls.intro hf hb hn hN fun n => ax_sound c _ _ (h n)
end
end Go.Al

/- Regions that draw their order: one walk serves every order. -/
namespace Go.Al

/-- 0: tells by its operands alone; 1: a load; 2: a call; 3: makes an object; 4: any other. -/
def opKind (o : Oper) : Nat :=
  match o.op with
  | .move _ | .assign _ | .pick .. | .binOp .. | .unOp .. | .convert .. | .extract .. | .field .. | .index .. | .build .. | .nilCheck _ | .fieldAddr .. | .indexAddr .. | .slice .. => 0
  | .makeFunc (.func _) _ _ => 0
  | .load .. => 1
  | .alloc _ | .box .. | .buildSlice .. | .makeSlice .. => 3
  | .call c => match c.callee with
    | .value _ => 2
    | .builtin .len | .builtin .max | .builtin .min => 0
    | .builtin .copy | .builtin .clear => 5
    | _ => 4
  | _ => 4

section
variable {P : Program}

theorem AS.bound_congr {st st' : AS} {x : Option Operand} {d : Nat} (h : ∀ y, x = some y → st'.ev y = st.ev y) : st'.bound x d = st.bound x d := by
  cases x with
  | none => rfl
  | some y => simp only [AS.bound, h y rfl]
theorem map_ev {st st' : AS} {l : List Operand} (h : ∀ x ∈ l, st'.ev x = st.ev x) : l.map st'.ev = l.map st.ev := List.map_congr_left h
theorem map_ev2 {st st' : AS} {l : List (Nat × Operand)} (h : ∀ p ∈ l, st'.ev p.2 = st.ev p.2) : l.map (fun p => (p.1, st'.ev p.2)) = l.map (fun p => (p.1, st.ev p.2)) :=
  List.map_congr_left fun p hp => by rw [h p hp]

/-- An operation looks at its operands, and at the objects. -/
theorem aop_congr {st st' : AS} {op : Op} (h : ∀ x ∈ op.operands, st'.ev x = st.ev x) (hH : st'.H = st.H) (hn : st'.n = st.n) : aop P st' op = aop P st op := by
  cases op with
  | slice t x lo hh mx =>
    have h1 : st'.ev x = st.ev x := h x (by simp [Op.operands])
    have h2 : st'.bound lo 0 = st.bound lo 0 := AS.bound_congr fun y e => h y (by subst e; simp [Op.operands])
    have h3 : ∀ d, st'.bound hh d = st.bound hh d := fun d => AS.bound_congr fun y e => h y (by subst e; simp [Op.operands])
    simp only [aop, h1, h2, h3, hH, hn]
  | call c =>
    have h1 : c.args.toList.map st'.ev = c.args.toList.map st.ev := map_ev fun x hx => h x (by
      simp only [Op.operands, Call.operands, Array.mem_append]; exact .inr (by simpa using hx))
    simp only [aop, h1, hH, hn]
  | makeFunc f first captured =>
    have h1 : captured.toList.map st'.ev = captured.toList.map st.ev := map_ev fun x hx => h x (by
      simp only [Op.operands, Array.mem_append]; exact .inr (by simpa using hx))
    cases f <;> simp only [aop, h1, hH, hn]
  | build t parts =>
    have h1 := map_ev2 (l := parts.toList) (st := st) (st' := st') fun p hp => h p.2 (by
      simp only [Op.operands]; simp; exact ⟨p.1, by simpa using hp⟩)
    simp only [aop, h1, hH, hn]
  | buildSlice t len parts =>
    have h1 := map_ev2 (l := parts.toList) (st := st) (st' := st') fun p hp => h p.2 (by
      simp only [Op.operands]; simp; exact ⟨p.1, by simpa using hp⟩)
    simp only [aop, h1, hH, hn]
  | move x => have h1 := h x (by simp [Op.operands]); simp only [aop, h1, hH, hn]
  | assign x => have h1 := h x (by simp [Op.operands]); simp only [aop, h1, hH, hn]
  | pick c x y => have h1 := h c (by simp [Op.operands]); have h2 := h x (by simp [Op.operands]); have h3 := h y (by simp [Op.operands]); simp only [aop, h1, h2, h3, hH, hn]
  | alloc t => simp only [aop, hH, hn]
  | box t x => have h1 := h x (by simp [Op.operands]); simp only [aop, h1, hH, hn]
  | load t x => have h1 := h x (by simp [Op.operands]); simp only [aop, h1, hH, hn]
  | store t x y => have h1 := h x (by simp [Op.operands]); have h2 := h y (by simp [Op.operands]); simp only [aop, h1, h2, hH, hn]
  | nilCheck x => have h1 := h x (by simp [Op.operands]); simp only [aop, h1, hH, hn]
  | binOp op t x y t' => have h1 := h x (by simp [Op.operands]); have h2 := h y (by simp [Op.operands]); simp only [aop, h1, h2, hH, hn]
  | unOp op t x => have h1 := h x (by simp [Op.operands]); simp only [aop, h1, hH, hn]
  | convert s d x => have h1 := h x (by simp [Op.operands]); simp only [aop, h1, hH, hn]
  | makeSlice t l c => have h1 := h l (by simp [Op.operands]); have h2 := h c (by simp [Op.operands]); simp only [aop, h1, h2, hH, hn]
  | fieldAddr s x f => have h1 := h x (by simp [Op.operands]); simp only [aop, h1, hH, hn]
  | field s x f => have h1 := h x (by simp [Op.operands]); simp only [aop, h1, hH, hn]
  | indexAddr t x ix => have h1 := h x (by simp [Op.operands]); have h2 := h ix (by simp [Op.operands]); simp only [aop, h1, h2, hH, hn]
  | index t x ix => have h1 := h x (by simp [Op.operands]); have h2 := h ix (by simp [Op.operands]); simp only [aop, h1, h2, hH, hn]
  | extract x i => have h1 := h x (by simp [Op.operands]); simp only [aop, h1, hH, hn]
  | _ => simp only [aop]

/-- The same in another heap. -/
def inHeap (st : AS) (H : AH) (n : Nat) : AS := { st with H := H, n := n }
theorem inHeap_ev (st : AS) (H : AH) (n : Nat) (x : Operand) : (inHeap st H n).ev x = st.ev x := by cases x <;> rfl
theorem inHeap_evf (st : AS) (H : AH) (n : Nat) : (inHeap st H n).ev = st.ev := funext (inHeap_ev st H n)
theorem inHeap_bound (st : AS) (H : AH) (n : Nat) (x : Option Operand) (d : Nat) : (inHeap st H n).bound x d = st.bound x d := AS.bound_congr fun y _ => inHeap_ev st H n y

theorem bindmk {α : Type} {x : Option α} {f : α → Option (AV × AH × Nat)} {g : α → Option (AV × AH × Nat)} {v : AV} {H0 H' : AH} {n0 n' : Nat} {H1 : AH} {n1 : Nat}
    (hfg : ∀ a, f a = some (v, H', n') → H' = H0 ∧ n' = n0 ∧ g a = some (v, H1, n1)) (h : x.bind f = some (v, H', n')) : H' = H0 ∧ n' = n0 ∧ x.bind g = some (v, H1, n1) := by
  cases x with
  | none => simp at h
  | some a => simpa using hfg a (by simpa using h)

/-- An operation of kind 0 tells the same in any heap. -/
theorem aop_indep {st : AS} {o : Oper} (hk : opKind o = 0) {v : AV} {H' : AH} {n' : Nat} (h : aop P st o.op = some (v, H', n')) (H1 : AH) (n1 : Nat) :
    H' = st.H ∧ n' = st.n ∧ aop P (inHeap st H1 n1) o.op = some (v, H1, n1) := by
  unfold opKind at hk
  generalize o.op = op at hk h ⊢
  cases op with
  | move x => obtain ⟨rfl, rfl, rfl⟩ := some3 h; exact ⟨rfl, rfl, by simp only [aop, inHeap_ev]; rfl⟩
  | assign x => obtain ⟨rfl, rfl, rfl⟩ := some3 h; exact ⟨rfl, rfl, by simp only [aop, inHeap_ev]; rfl⟩
  | pick c x y =>
    simp only [aop, inHeap_ev] at h ⊢
    split at h
    · obtain ⟨rfl, rfl, rfl⟩ := some3 h; exact ⟨rfl, rfl, rfl⟩
    · cases h
  | binOp op t x y t' =>
    simp only [aop, inHeap_ev] at h ⊢
    exact bindmk (fun a ha => by obtain ⟨rfl, rfl, rfl⟩ := some3 ha; exact ⟨rfl, rfl, rfl⟩) h
  | unOp op t x =>
    simp only [aop, inHeap_ev] at h ⊢
    split at h
    · exact bindmk (fun a ha => by obtain ⟨rfl, rfl, rfl⟩ := some3 ha; exact ⟨rfl, rfl, rfl⟩) h
    · cases h
  | convert s d x =>
    simp only [aop, inHeap_ev] at h ⊢
    split at h
    · obtain ⟨rfl, rfl, rfl⟩ := some3 h; exact ⟨rfl, rfl, rfl⟩
    · cases h
  | extract x i =>
    simp only [aop, inHeap_ev] at h ⊢
    split at h
    · exact bindmk (fun a ha => by obtain ⟨rfl, rfl, rfl⟩ := some3 ha; exact ⟨rfl, rfl, rfl⟩) h
    · cases h
  | field s x f =>
    simp only [aop, inHeap_ev] at h ⊢
    refine bindmk (fun a ha => ?_) h
    refine bindmk (fun b hb => ?_) ha
    refine bindmk (fun c hc => ?_) hb
    split at hc
    · exact bindmk (fun a ha => by obtain ⟨rfl, rfl, rfl⟩ := some3 ha; exact ⟨rfl, rfl, rfl⟩) hc
    · cases hc
  | index t x ix =>
    simp only [aop, inHeap_ev] at h ⊢
    refine bindmk (fun a ha => ?_) h
    refine bindmk (fun b hb => ?_) ha
    refine bindmk (fun c hc => ?_) hb
    split at hc
    · split at hc
      · rename_i h0
        rw [if_pos h0]
        exact bindmk (fun a ha => by obtain ⟨rfl, rfl, rfl⟩ := some3 ha; exact ⟨rfl, rfl, rfl⟩) hc
      · cases hc
    · cases hc
  | build t parts =>
    simp only [aop, inHeap_evf] at h ⊢
    refine bindmk (fun a ha => ?_) h
    refine bindmk (fun b hb => ?_) ha
    refine bindmk (fun c hc => ?_) hb
    split at hc
    · rename_i h0
      rw [if_pos h0]
      refine bindmk (fun d hd => ?_) hc
      exact bindmk (fun a ha => by obtain ⟨rfl, rfl, rfl⟩ := some3 ha; exact ⟨rfl, rfl, rfl⟩) hd
    · cases hc
  | nilCheck x =>
    simp only [aop, inHeap_ev] at h ⊢
    split at h
    · obtain ⟨rfl, rfl, rfl⟩ := some3 h; exact ⟨rfl, rfl, rfl⟩
    · obtain ⟨rfl, rfl, rfl⟩ := some3 h; exact ⟨rfl, rfl, rfl⟩
    · cases h
  | fieldAddr s x f =>
    simp only [aop, inHeap_ev] at h ⊢
    refine bindmk (fun a ha => ?_) h
    refine bindmk (fun b hb => ?_) ha
    refine bindmk (fun c hc => ?_) hb
    split at hc
    · cases hc
    · rename_i h0
      rw [if_neg h0]
      split at hc
      · obtain ⟨rfl, rfl, rfl⟩ := some3 hc; exact ⟨rfl, rfl, rfl⟩
      · obtain ⟨rfl, rfl, rfl⟩ := some3 hc; exact ⟨rfl, rfl, rfl⟩
      · cases hc
  | indexAddr t x ix =>
    simp only [aop, inHeap_ev] at h ⊢
    refine bindmk (fun a ha => ?_) h
    refine bindmk (fun b hb => ?_) ha
    refine bindmk (fun c hc => ?_) hb
    split at hc
    · split at hc
      · rename_i h0
        rw [if_pos h0]
        split at hc
        · rename_i h1
          rw [if_pos h1]
          exact bindmk (fun a ha => by obtain ⟨rfl, rfl, rfl⟩ := some3 ha; exact ⟨rfl, rfl, rfl⟩) hc
        · cases hc
      · cases hc
    · split at hc
      · rename_i h0
        rw [if_pos h0]
        obtain ⟨rfl, rfl, rfl⟩ := some3 hc; exact ⟨rfl, rfl, rfl⟩
      · cases hc
    · cases hc
  | slice t x lo hh mx =>
    simp only [aop, inHeap_ev, inHeap_bound] at h ⊢
    split at h
    · cases h
    · rename_i h0
      rw [if_neg h0]
      split at h
      · rename_i id z off m k hv
        refine bindmk (fun a ha => ?_) h
        refine bindmk (fun b hb => ?_) ha
        refine bindmk (fun c hc => ?_) hb
        refine bindmk (fun d hd => ?_) hc
        split at hd
        · rename_i h1
          rw [if_pos h1]
          obtain ⟨rfl, rfl, rfl⟩ := some3 hd; exact ⟨rfl, rfl, rfl⟩
        · cases hd
      · rename_i hno
        refine bindmk (fun a ha => ?_) h
        refine bindmk (fun b hb => ?_) ha
        refine bindmk (fun c hc => ?_) hb
        refine bindmk (fun d hd => ?_) hc
        refine bindmk (fun e he => ?_) hd
        split at he
        · rename_i h1
          rw [if_pos h1]
          split at he
          · split at he
            · rename_i h2
              rw [if_pos h2]
              obtain ⟨rfl, rfl, rfl⟩ := some3 he; exact ⟨rfl, rfl, rfl⟩
            · cases he
          · split at he
            · rename_i h2
              rw [if_pos h2]
              obtain ⟨rfl, rfl, rfl⟩ := some3 he; exact ⟨rfl, rfl, rfl⟩
            · cases he
          · obtain ⟨rfl, rfl, rfl⟩ := some3 he; exact ⟨rfl, rfl, rfl⟩
          · cases he
        · cases he
  | makeFunc f first captured =>
    cases f with
    | func f =>
      simp only [aop, inHeap_evf] at h ⊢
      split at h
      · rename_i h0
        rw [if_pos h0]
        obtain ⟨rfl, rfl, rfl⟩ := some3 h; exact ⟨rfl, rfl, rfl⟩
      · cases h
    | _ => simp [aop] at h
  | call c =>
    simp only at hk
    split at hk
    · cases hk
    · rename_i hc
      simp only [aop, hc, inHeap_evf] at h ⊢
      split at h
      · refine bindmk (fun a ha => ?_) h
        exact bindmk (fun a ha => by obtain ⟨rfl, rfl, rfl⟩ := some3 ha; exact ⟨rfl, rfl, rfl⟩) ha
      · cases h
    · rename_i hc
      simp only [aop, hc, inHeap_evf] at h ⊢
      split at h
      · obtain ⟨rfl, rfl, rfl⟩ := some3 h; exact ⟨rfl, rfl, rfl⟩
      · cases h
    · rename_i hc
      simp only [aop, hc, inHeap_evf] at h ⊢
      split at h
      · obtain ⟨rfl, rfl, rfl⟩ := some3 h; exact ⟨rfl, rfl, rfl⟩
      · cases h
    all_goals cases hk
  | _ => simp at hk
end
end Go.Al

/- Regions that draw their order, continued: what may come first does; the rule. -/
namespace Go.Al

def Dom (st : AS) : Prop := ∀ id, st.H id ≠ none → id < st.n

def DStep (P : Program) (G : List (Option Nat)) (o : Oper) (st st' : AS) : Prop :=
  (AWant G o st = some false ∧ st' = st.put o.dst (.sc (.tuple #[]))) ∨
  (AWant G o st = some true ∧
    ((callsF o = none ∧ ∃ v H' n', aop P st o.op = some (v, H', n') ∧ st' = (inHeap st H' n').put o.dst v) ∨
     (∃ c f g r, callsF o = some (c, f) ∧ st.ev f = .fn g [] ∧ PCalls P g (c.args.toList.map st.ev) r ∧ st' = st.put o.dst r)))


/-- The same, or an operation told by a rule of its own; or, where nothing else may come up (b): any operation that tells one state. -/
def DStepX (P : Program) (G : List (Option Nat)) (b : Bool) (o : Oper) (st st' : AS) : Prop :=
  DStep P G o st st' ∨ (b = true ∧ AWant G o st = some true ∧ AStep P o st fun s => s = st') ∨ (opKind o = 5 ∧ AWant G o st = some true ∧ callsF o = none ∧ aop P st o.op = none ∧ AStepX P o st fun s => s = st')
def DAny (P : Program) (ops : Array Oper) (S : Nat → Bool) (K : AS → Prop) : Nat → Array Bool → AS → Prop
  | 0, listed, st => Dom st → Region.ready .any ops listed = [] ∧ K st
  | f + 1, listed, st => Dom st → (Region.ready .any ops listed = [] → K st) ∧
    ∀ i ∈ Region.ready .any ops listed, ∃ o st', ops[i]? = some o ∧ DStepX P (ops.toList.map (·.dst)) (S i) o st st' ∧ DAny P ops S K f (listed.setIfInBounds i true) st'

section
variable {P : Program} {N : Nat} {ops : Array Oper} {K : AS → Prop}

theorem put_HN (st : AS) (d : Option Nat) (v : AV) : (st.put d v).H = st.H ∧ (st.put d v).n = st.n := by cases d <;> exact ⟨rfl, rfl⟩
theorem Dom.put {st : AS} {d : Option Nat} {v : AV} (h : Dom st) : Dom (st.put d v) := by
  cases d <;> exact h
theorem put_comm {st : AS} {d e : Option Nat} {v u : AV} (h : ∀ x, d = some x → e ≠ some x) : (st.put d v).put e u = (st.put e u).put d v := by
  cases d with
  | none => rfl
  | some x =>
    cases e with
    | none => rfl
    | some y =>
      have hxy : x ≠ y := fun e => h x rfl (e ▸ rfl)
      simp only [AS.put]
      congr 1
      funext i
      by_cases h1 : i = x
      · subst h1; rw [upd_same, upd_ne _ _ hxy, upd_same]
      · by_cases h2 : i = y
        · subst h2; rw [upd_ne _ _ h1]; rw [upd_same, upd_same]
        · rw [upd_ne _ _ h1, upd_ne _ _ h2, upd_ne _ _ h2, upd_ne _ _ h1]
theorem put_ev {st : AS} {d : Option Nat} {v : AV} {x : Operand} (h : ∀ e, d = some e → x ≠ .tmp e) : (st.put d v).ev x = st.ev x := by
  cases d with
  | none => rfl
  | some e =>
    cases x with
    | tmp t =>
      have : t ≠ e := fun k => h e rfl (k ▸ rfl)
      simp only [AS.put, AS.ev, upd_ne _ _ this]
    | _ => rfl
theorem inHeap_put (st : AS) (H : AH) (n : Nat) (d : Option Nat) (v : AV) : inHeap (st.put d v) H n = (inHeap st H n).put d v := by cases d <;> rfl

theorem looks_op {o : Oper} {d : Nat} (h : d ∉ o.looksAt ops) {x : Operand} (hx : x ∈ o.op.operands) : x ≠ .tmp d := by
  rintro rfl
  exact h (List.mem_append_left _ (List.mem_filterMap.2 ⟨.tmp d, by simpa using hx, rfl⟩))
theorem looks_ev {o : Oper} {st : AS} {d : Option Nat} {v : AV} (h : ∀ e, d = some e → e ∉ o.looksAt ops) : ∀ x ∈ o.op.operands, (st.put d v).ev x = st.ev x :=
  fun x hx => put_ev fun e he => looks_op (h e he) hx
theorem looks_want {o : Oper} {st : AS} {d : Option Nat} {v : AV} (h : ∀ e, d = some e → e ∉ o.looksAt ops) (H : AH) (n : Nat) :
    AWant (ops.toList.map (·.dst)) o ((inHeap st H n).put d v) = AWant (ops.toList.map (·.dst)) o st := by
  unfold AWant
  cases hg : o.guard with
  | none => rfl
  | some p =>
    obtain ⟨j, want⟩ := p
    simp only
    cases hj : (ops.toList.map (·.dst))[j]? with
    | none => rfl
    | some q =>
      cases q with
      | none => rfl
      | some e =>
        simp only
        have : ((inHeap st H n).put d v).t e = st.t e := by
          cases d with
          | none => rfl
          | some x =>
            have hx : x ∉ o.looksAt ops := h x rfl
            have : e ≠ x := by
              rintro rfl
              apply hx
              refine List.mem_append_right _ ?_
              rw [List.getElem?_map, Array.getElem?_toList] at hj
              cases hq : ops[j]? with
              | none => simp [hq] at hj
              | some oj => simp [hq] at hj; simp [hg, hq, hj]
            simp only [AS.put, upd_ne _ _ this]
            rfl
        rw [this]
theorem callsF_op {o : Oper} {c : Call} {f : Operand} (h : callsF o = some (c, f)) : o.op = .call c ∧ c.callee = .value f := by
  unfold callsF at h
  split at h
  · rename_i c' h1
    split at h
    · rename_i f' h2; cases h; exact ⟨h1, h2⟩
    · cases h
  · cases h
theorem calls_ev {o : Oper} {c : Call} {f : Operand} (h : callsF o = some (c, f)) {st st' : AS} (he : ∀ x ∈ o.op.operands, st'.ev x = st.ev x) : st'.ev f = st.ev f ∧ c.args.toList.map st'.ev = c.args.toList.map st.ev := by
  obtain ⟨h1, h2⟩ := callsF_op h
  rw [h1] at he
  refine ⟨he f (by simp [Op.operands, Call.operands, h2]), map_ev fun x hx => he x ?_⟩
  simp only [Op.operands, Call.operands, Array.mem_append]
  exact .inr (by simpa using hx)

/-- A heap that an operation of kind 0 to 3 leaves: the same, or one with one object more. -/
theorem kind_heap {st : AS} {o : Oper} (hk : opKind o ≤ 3) {v : AV} {H' : AH} {n' : Nat} (h : aop P st o.op = some (v, H', n')) : ∀ id, id ≠ st.n → H' id = st.H id := by
  by_cases h0 : opKind o = 0
  · intro id _
    rw [(aop_indep h0 h st.H st.n).1]
  · unfold opKind at hk h0
    generalize o.op = op at hk h0 h
    cases op with
    | load t x =>
      simp only [aop] at h
      obtain ⟨a, ha, hb⟩ := Option.bind_eq_some_iff.1 h
      obtain ⟨rfl, rfl, rfl⟩ := some3 hb
      intro id _; rfl
    | alloc t =>
      simp only [aop] at h
      obtain ⟨a, ha, hb⟩ := Option.bind_eq_some_iff.1 h
      obtain ⟨b, hb1, hc⟩ := Option.bind_eq_some_iff.1 hb
      split at hc
      · obtain ⟨rfl, rfl, rfl⟩ := some3 hc
        intro id hid; exact upd_ne _ _ hid
      · cases hc
    | box t x =>
      simp only [aop] at h
      obtain ⟨a, ha, hb⟩ := Option.bind_eq_some_iff.1 h
      obtain ⟨rfl, rfl, rfl⟩ := some3 hb
      intro id hid; exact upd_ne _ _ hid
    | buildSlice t len parts =>
      simp only [aop] at h
      obtain ⟨a, _, h⟩ := Option.bind_eq_some_iff.1 h
      obtain ⟨b, _, h⟩ := Option.bind_eq_some_iff.1 h
      obtain ⟨c, _, h⟩ := Option.bind_eq_some_iff.1 h
      split at h
      · obtain ⟨d, _, h⟩ := Option.bind_eq_some_iff.1 h
        obtain ⟨rfl, rfl, rfl⟩ := some3 h
        intro id hid; exact upd_ne _ _ hid
      · cases h
    | makeSlice t l c =>
      simp only [aop] at h
      obtain ⟨a, _, h⟩ := Option.bind_eq_some_iff.1 h
      obtain ⟨b, _, h⟩ := Option.bind_eq_some_iff.1 h
      obtain ⟨c, _, h⟩ := Option.bind_eq_some_iff.1 h
      obtain ⟨d, _, h⟩ := Option.bind_eq_some_iff.1 h
      obtain ⟨e, _, h⟩ := Option.bind_eq_some_iff.1 h
      split at h
      · obtain ⟨rfl, rfl, rfl⟩ := some3 h
        intro id hid; exact upd_ne _ _ hid
      · cases h
    | call c =>
      simp only at hk h0
      split at hk
      · rename_i hc
        simp [aop, hc] at h
      · rename_i hc; simp [hc] at h0
      · rename_i hc; simp [hc] at h0
      · rename_i hc; simp [hc] at h0
      all_goals omega
    | makeFunc f first captured => cases f <;> simp at hk h0
    | _ => first | (simp at h0; done) | (simp at hk; done)

def kindOk (i j : Oper) : Bool := match opKind i with
  | 0 => true
  | 1 => decide (opKind j ≤ 3)
  | 2 => true
  | _ => false

theorem DStep_comm {oi oj : Oper} {st st1 st2 : AS} (hap : oi.apart ops oj = true) (hk : kindOk oi oj = true) (hdom : Dom st)
    (hi : DStep P (ops.toList.map (·.dst)) oi st st1) (hj : DStep P (ops.toList.map (·.dst)) oj st1 st2) :
    ∃ st', DStep P (ops.toList.map (·.dst)) oj st st' ∧ DStep P (ops.toList.map (·.dst)) oi st' st2 := by
  obtain ⟨a1, a2, a3⟩ := Oper.apart_spec hap
  -- what i leaves: its value in its temporary
  obtain ⟨vi, hst1, hval⟩ : ∃ vi, st1 = st.put oi.dst vi ∧ ∀ (Hj : AH) (nj : Nat) (vj : AV), (opKind oi = 1 → ∀ id, id ≠ st.n → Hj id = st.H id) →
      DStep P (ops.toList.map (·.dst)) oi ((inHeap st Hj nj).put oj.dst vj) (((inHeap st Hj nj).put oj.dst vj).put oi.dst vi) := by
    have hev : ∀ (Hj : AH) (nj : Nat) (vj : AV), ∀ x ∈ oi.op.operands, ((inHeap st Hj nj).put oj.dst vj).ev x = (inHeap st Hj nj).ev x := fun Hj nj vj => looks_ev a3
    rcases hi with ⟨h1, h2⟩ | ⟨h1, ⟨h2, v, H', n', h3, h4⟩ | ⟨c, f, g, r, h2, h3, h5, h6⟩⟩
    · exact ⟨.sc (.tuple #[]), h2, fun Hj nj vj _ => .inl ⟨by rw [looks_want a3]; exact h1, rfl⟩⟩
    · have hk0 : opKind oi = 0 ∨ opKind oi = 1 := by
        unfold kindOk at hk
        split at hk
        · exact .inl (by assumption)
        · exact .inr (by assumption)
        · rename_i hk2
          exfalso
          unfold opKind at hk2
          unfold callsF at h2
          split at hk2 <;> first | (cases hk2; done) | skip
          rename_i c hc
          rw [hc] at h2
          split at hk2 <;> first | (cases hk2; done) | skip
          rename_i f hf
          simp [hf] at h2
        · cases hk
      rcases hk0 with hk0 | hk0
      · obtain ⟨e1, e2, _⟩ := aop_indep hk0 h3 st.H st.n
        subst e1; subst e2
        refine ⟨v, h4, fun Hj nj vj _ => .inr ⟨by rw [looks_want a3]; exact h1, .inl ⟨h2, v, Hj, nj, ?_, ?_⟩⟩⟩
        · rw [aop_congr (hev Hj nj vj) (by rw [(put_HN _ _ _).1]) (by rw [(put_HN _ _ _).2])]
          exact (aop_indep hk0 h3 Hj nj).2.2
        · congr 1; cases oj.dst <;> rfl
      · -- a load
        have hload : ∃ t x, oi.op = .load t x := by
          unfold opKind at hk0
          split at hk0 <;> first | (cases hk0; done) | skip
          · exact ⟨_, _, by assumption⟩
          · split at hk0 <;> cases hk0
        obtain ⟨t, x, hop⟩ := hload
        rw [hop] at h3
        have h3' := h3
        simp only [aop] at h3'
        obtain ⟨u, hu, hv⟩ := Option.bind_eq_some_iff.1 h3'
        obtain ⟨rfl, rfl, rfl⟩ := some3 hv
        refine ⟨u, h4, fun Hj nj vj hHj => .inr ⟨by rw [looks_want a3]; exact h1, .inl ⟨h2, u, Hj, nj, ?_, ?_⟩⟩⟩
        · rw [aop_congr (hev Hj nj vj) (by rw [(put_HN _ _ _).1]) (by rw [(put_HN _ _ _).2]), hop]
          simp only [aop, inHeap_ev]
          have : aload P Hj t (st.ev x) = some u := by
            unfold aload at hu ⊢
            obtain ⟨T, hT, hu⟩ := Option.bind_eq_some_iff.1 hu
            rw [hT, Option.bind_some]
            split at hu
            · rename_i id z i off hxv
              have hne : st.H id ≠ none := by intro e; rw [e] at hu; simp at hu
              have hid : id ≠ st.n := by have := hdom id hne; omega
              rw [hHj hk0 id hid]
              exact hu
            · exact hu
            · cases hu
          show (aload P Hj t (st.ev x)).bind (fun v => some (v, Hj, nj)) = _
          rw [this, Option.bind_some]
        · congr 1; cases oj.dst <;> rfl
    · refine ⟨r, h6, fun Hj nj vj _ => .inr ⟨by rw [looks_want a3]; exact h1, .inr ⟨c, f, g, r, h2, ?_, ?_, rfl⟩⟩⟩
      · rw [(calls_ev h2 (hev Hj nj vj)).1, inHeap_ev]; exact h3
      · rw [(calls_ev h2 (hev Hj nj vj)).2, inHeap_evf]; exact h5
  subst hst1
  have hevj : ∀ x ∈ oj.op.operands, (st.put oi.dst vi).ev x = st.ev x := looks_ev a1
  have hwj : AWant (ops.toList.map (·.dst)) oj (st.put oi.dst vi) = AWant (ops.toList.map (·.dst)) oj st := by
    have := looks_want (ops := ops) (o := oj) (st := st) (d := oi.dst) (v := vi) a1 st.H st.n
    simpa [inHeap] using this
  rcases hj with ⟨h1, h2⟩ | ⟨h1, ⟨h2, v, H', n', h3, h4⟩ | ⟨c, f, g, r, h2, h3, h5, h6⟩⟩
  · refine ⟨st.put oj.dst (.sc (.tuple #[])), .inl ⟨by rw [← hwj]; exact h1, rfl⟩, ?_⟩
    rw [h2, put_comm a2]
    exact hval st.H st.n (.sc (.tuple #[])) (fun _ _ _ => rfl)
  · rw [aop_congr hevj (put_HN _ _ _).1 (put_HN _ _ _).2] at h3
    refine ⟨(inHeap st H' n').put oj.dst v, .inr ⟨by rw [← hwj]; exact h1, .inl ⟨h2, v, H', n', h3, rfl⟩⟩, ?_⟩
    rw [h4, inHeap_put, put_comm a2]
    refine hval H' n' v fun hk1 => ?_
    unfold kindOk at hk
    rw [hk1] at hk
    exact kind_heap (of_decide_eq_true hk) h3
  · obtain ⟨e1, e2⟩ := calls_ev h2 hevj
    rw [e1] at h3
    rw [e2] at h5
    refine ⟨st.put oj.dst r, .inr ⟨by rw [← hwj]; exact h1, .inr ⟨c, f, g, r, h2, h3, h5, rfl⟩⟩, ?_⟩
    rw [h6, put_comm a2]
    exact hval st.H st.n r (fun _ _ _ => rfl)

/-! ### What waits for what -/
inductive Anc (ops : Array Oper) : Nat → Nat → Prop
  | edge {j : Nat} {o : Oper} {e : Edge} : ops[j]? = some o → e ∈ o.after → Region.binds .any e = true → Anc ops j e.on
  | step {j k : Nat} {o : Oper} {e : Edge} : ops[j]? = some o → e ∈ o.after → Region.binds .any e = true → Anc ops e.on k → Anc ops j k
def Closed (ops : Array Oper) (listed : Array Bool) : Prop := ∀ j o, ops[j]? = some o → listed.getD j false = true → ∀ e ∈ o.after, Region.binds .any e = true → listed.getD e.on false = true
theorem Anc.listed {j k : Nat} (h : Anc ops j k) {listed : Array Bool} (hc : Closed ops listed)
    (hj : listed.getD j false = true ∨ j ∈ Region.ready .any ops listed) : listed.getD k false = true := by
  induction h with
  | edge ho he hb =>
    rcases hj with hj | hj
    · exact hc _ _ ho hj _ he hb
    · obtain ⟨_, o', ho', hall⟩ := mem_ready.1 hj
      rw [ho] at ho'; cases ho'
      exact hall _ he hb
  | step ho he hb _ ih =>
    refine ih (.inl ?_)
    rcases hj with hj | hj
    · exact hc _ _ ho hj _ he hb
    · obtain ⟨_, o', ho', hall⟩ := mem_ready.1 hj
      rw [ho] at ho'; cases ho'
      exact hall _ he hb
theorem Closed.set {listed : Array Bool} (hc : Closed ops listed) {i : Nat} (hi : i ∈ Region.ready .any ops listed) : Closed ops (listed.setIfInBounds i true) := by
  intro j o ho hj e he hb
  by_cases hji : j = i
  · subst hji
    obtain ⟨_, o', ho', hall⟩ := mem_ready.1 hi
    rw [ho] at ho'; cases ho'
    exact getD_set_true (hall e he hb)
  · rw [getD_set_ne false (Ne.symm hji)] at hj
    exact getD_set_true (hc j o ho hj e he hb)

/-- The ancestors of each operation, made once. -/
def addAll (s : List Nat) : List Nat → List Nat
  | [] => s
  | k :: r => addAll (if s.contains k then s else k :: s) r
def addAnc (acc : List (List Nat)) (s : List Nat) (e : Nat) : List Nat := if s.contains e then s else addAll (e :: s) (acc.getD e [])
def ancOf (acc : List (List Nat)) (s : List Nat) : List Edge → List Nat
  | [] => s
  | e :: r => ancOf acc (if Region.binds .any e then addAnc acc s e.on else s) r
def ancs : List Oper → List (List Nat) → List (List Nat)
  | [], acc => acc
  | o :: r, acc => ancs r (acc ++ [ancOf acc [] o.after.toList])

theorem addAll_mem : ∀ {l s : List Nat} {k : Nat}, k ∈ addAll s l → k ∈ s ∨ k ∈ l
  | [], s, k, h => .inl h
  | x :: l, s, k, h => by
    rcases addAll_mem (l := l) h with h | h
    · split at h
      · exact .inl h
      · rcases List.mem_cons.1 h with rfl | h
        · exact .inr (by simp)
        · exact .inl h
    · exact .inr (List.mem_cons_of_mem _ h)
theorem addAnc_mem {acc : List (List Nat)} {s : List Nat} {e k : Nat} (h : k ∈ addAnc acc s e) : k ∈ s ∨ k = e ∨ k ∈ acc.getD e [] := by
  unfold addAnc at h
  split at h
  · exact .inl h
  · rcases addAll_mem h with h | h
    · rcases List.mem_cons.1 h with rfl | h
      · exact .inr (.inl rfl)
      · exact .inl h
    · exact .inr (.inr h)
theorem ancOf_mem {acc : List (List Nat)} : ∀ {l : List Edge} {s : List Nat} {k : Nat}, k ∈ ancOf acc s l → k ∈ s ∨ ∃ e ∈ l, Region.binds .any e = true ∧ (k = e.on ∨ k ∈ acc.getD e.on [])
  | [], s, k, h => .inl h
  | x :: l, s, k, h => by
    rcases ancOf_mem (l := l) h with h | ⟨e, he, hb, h⟩
    · split at h
      · rename_i hb
        rcases addAnc_mem h with h | h
        · exact .inl h
        · exact .inr ⟨x, by simp, hb, h⟩
      · exact .inl h
    · exact .inr ⟨e, List.mem_cons_of_mem _ he, hb, h⟩
theorem ancs_ok : ∀ (l : List Oper) (acc : List (List Nat)), (∀ i, l[i]? = ops[acc.length + i]?) → (∀ j, ∀ k ∈ acc.getD j [], Anc ops j k) → ∀ j, ∀ k ∈ (ancs l acc).getD j [], Anc ops j k
  | [], acc, _, h => h
  | o :: l, acc, hl, h => by
    refine ancs_ok l _ (fun i => ?_) (fun j k hk => ?_)
    · have := hl (i + 1)
      simp only [List.getElem?_cons_succ] at this
      rw [this]
      simp only [List.length_append, List.length_cons, List.length_nil]
      congr 1
      omega
    · have ho : ops[acc.length]? = some o := by have := hl 0; simpa using this.symm
      rcases Nat.lt_trichotomy j acc.length with hj | hj | hj
      · rw [List.getD_eq_getElem?_getD, List.getElem?_append, if_pos hj, ← List.getD_eq_getElem?_getD] at hk
        exact h j k hk
      · subst hj
        rw [List.getD_eq_getElem?_getD, List.getElem?_append, if_neg (Nat.lt_irrefl _)] at hk
        simp only [Nat.sub_self, List.getElem?_cons_zero, Option.getD_some] at hk
        rcases ancOf_mem hk with hk | ⟨e, he, hb, hk⟩
        · simp at hk
        · rcases hk with rfl | hk
          · exact .edge ho (by simpa using he) hb
          · exact .step ho (by simpa using he) hb (h _ _ hk)
      · rw [List.getD_eq_getElem?_getD, List.getElem?_append, if_neg (by omega)] at hk
        obtain ⟨m, hm⟩ : ∃ m, j - acc.length = m + 1 := ⟨j - acc.length - 1, by omega⟩
        rw [hm] at hk
        simp at hk

theorem DStep_put {oi oj : Oper} {G : List (Option Nat)} {st st1 : AS} (hk : kindOk oi oj = true) (hi : DStep P G oi st st1) : ∃ vi, st1 = st.put oi.dst vi := by
  rcases hi with ⟨h1, h2⟩ | ⟨h1, ⟨h2, v, H', n', h3, h4⟩ | ⟨c, f, g, r, h2, h3, h5, h6⟩⟩
  · exact ⟨_, h2⟩
  · have hk0 : opKind oi = 0 ∨ opKind oi = 1 ∨ opKind oi = 2 := by
      unfold kindOk at hk
      split at hk
      · exact .inl (by assumption)
      · exact .inr (.inl (by assumption))
      · exact .inr (.inr (by assumption))
      · cases hk
    rcases hk0 with hk0 | hk0 | hk0
    · obtain ⟨e1, e2, _⟩ := aop_indep hk0 h3 st.H st.n
      subst e1; subst e2
      exact ⟨v, h4⟩
    · have : ∃ t x, oi.op = .load t x := by
        unfold opKind at hk0
        split at hk0 <;> first | (cases hk0; done) | skip
        · exact ⟨_, _, by assumption⟩
        · split at hk0 <;> cases hk0
      obtain ⟨t, x, hop⟩ := this
      rw [hop] at h3
      simp only [aop] at h3
      obtain ⟨u, hu, hv⟩ := Option.bind_eq_some_iff.1 h3
      obtain ⟨rfl, rfl, rfl⟩ := some3 hv
      exact ⟨u, h4⟩
    · exfalso
      unfold opKind at hk0
      unfold callsF at h2
      split at hk0 <;> first | (cases hk0; done) | skip
      rename_i c hc
      rw [hc] at h2
      split at hk0 <;> first | (cases hk0; done) | skip
      rename_i f hf
      simp [hf] at h2
  · exact ⟨r, h6⟩

theorem DStepX.low {oi oj : Oper} {G : List (Option Nat)} {b : Bool} {st st1 : AS} (hk : kindOk oi oj = true) (hb : b = false) (h : DStepX P G b oi st st1) : DStep P G oi st st1 := by
  rcases h with h | h | h
  · exact h
  · rw [hb] at h; cases h.1
  · unfold kindOk at hk
    rw [h.1] at hk
    cases hk
/-- What may come up now, and minds no other, comes first. -/
theorem DAny_first {S : Nat → Bool} {i : Nat} {oi : Oper} (hi : ops[i]? = some oi) : ∀ (f : Nat) (listed : Array Bool) (st st1 : AS), Closed ops listed →
    (∀ j oj, ops[j]? = some oj → j ≠ i → listed.getD j true = false → Anc ops j i ∨ (oi.apart ops oj = true ∧ kindOk oi oj = true ∧ opKind oj ≠ 5 ∧ S i = false ∧ S j = false)) →
    i ∈ Region.ready .any ops listed → DStepX P (ops.toList.map (·.dst)) (S i) oi st st1 → DAny P ops S K f (listed.setIfInBounds i true) st1 → DAny P ops S K (f + 1) listed st := by
  intro f
  induction f with
  | zero =>
    intro listed st st1 hcl hfree hr hs hd
    simp only [DAny] at hd ⊢
    intro hdom
    refine ⟨fun h => (by rw [h] at hr; cases hr), fun j hj => ?_⟩
    by_cases hji : j = i
    · subst hji; exact ⟨oi, st1, hi, hs, hd⟩
    · exfalso
      obtain ⟨hjun, oj, hoj, hall⟩ := mem_ready.1 hj
      rcases hfree j oj hoj hji hjun with ha | ⟨ha, hk, hk5, hSi, hSj⟩
      · have h1 := ha.listed hcl (.inr hj)
        have h2 := (mem_ready.1 hr).1
        rcases Nat.lt_or_ge i listed.size with h' | h'
        · simp [h'] at h1 h2; rw [h1] at h2; cases h2
        · simp [Array.getElem?_eq_none h'] at h1
      · obtain ⟨vi, rfl⟩ := DStep_put hk (DStepX.low hk hSi hs)
        have := ready_mono hj hji
        rw [(hd hdom.put).1] at this
        cases this
  | succ f ih =>
    intro listed st st1 hcl hfree hr hs hd
    rw [DAny]
    intro hdom
    refine ⟨fun h => (by rw [h] at hr; cases hr), fun j hj => ?_⟩
    by_cases hji : j = i
    · subst hji; exact ⟨oi, st1, hi, hs, hd⟩
    · obtain ⟨hjun, oj, hoj, hall⟩ := mem_ready.1 hj
      rcases hfree j oj hoj hji hjun with ha | ⟨ha, hk, hk5, hSi, hSj⟩
      · exfalso
        have h1 := ha.listed hcl (.inr hj)
        have h2 := (mem_ready.1 hr).1
        rcases Nat.lt_or_ge i listed.size with h' | h'
        · simp [h'] at h1 h2; rw [h1] at h2; cases h2
        · simp [Array.getElem?_eq_none h'] at h1
      · obtain ⟨vi, hst1⟩ := DStep_put hk (DStepX.low hk hSi hs)
        rw [DAny] at hd
        have hd2 := (hd (by rw [hst1]; exact hdom.put)).2 j (ready_mono hj hji)
        obtain ⟨oj', st2, hoj', hs2, hd3⟩ := hd2
        rw [hoj] at hoj'; cases hoj'
        obtain ⟨st', k1, k2⟩ := DStep_comm ha hk hdom (DStepX.low hk hSi hs) (hs2.resolve_right fun h => (by rcases h with h | h; rw [hSj] at h; cases h.1; exact hk5 h.1))
        refine ⟨oj, st', hoj, .inl k1, ih (listed.setIfInBounds j true) st' st2 (hcl.set hj) ?_ (ready_mono hr (Ne.symm hji)) (.inl k2) ?_⟩
        · intro k ok hok hki hun
          refine hfree k ok hok hki ?_
          by_cases hjk : j = k
          · subst hjk; exact hjun
          · rw [getD_set_ne true hjk] at hun; exact hun
        · rw [Array.setIfInBounds_comm _ _ hji]; exact hd3
theorem DAny_only {S : Nat → Bool} {i : Nat} {oi : Oper} {f : Nat} {listed : Array Bool} {st st1 : AS} (hi : ops[i]? = some oi) (hr : Region.ready .any ops listed = [i])
    (hs : DStepX P (ops.toList.map (·.dst)) (S i) oi st st1) (hd : DAny P ops S K f (listed.setIfInBounds i true) st1) : DAny P ops S K (f + 1) listed st := by
  rw [DAny]
  intro _
  refine ⟨fun h => (by rw [h] at hr; cases hr), fun j hj => ?_⟩
  rw [hr] at hj
  have : j = i := by simpa using hj
  subst this
  exact ⟨oi, st1, hi, hs, hd⟩

def readyB (ops : Array Oper) (listed : Array Bool) (i : Nat) : Bool :=
  !listed.getD i true && (match ops[i]? with | some o => o.after.all fun e => !Region.binds .any e || listed.getD e.on false | none => false)
theorem readyB_spec {listed : Array Bool} {i : Nat} (h : readyB ops listed i = true) : i ∈ Region.ready .any ops listed := by
  unfold readyB at h
  simp only [Bool.and_eq_true, Bool.not_eq_true'] at h
  refine mem_ready.2 ⟨h.1, ?_⟩
  have h2 := h.2
  split at h2
  · rename_i o ho
    refine ⟨o, ho, fun e he hb => ?_⟩
    have := Array.all_eq_true'.1 h2 e he
    simpa [hb] using this
  · cases h2
def firstB (ops : Array Oper) (S : Nat → Bool) (A : List (List Nat)) (listed : Array Bool) (i : Nat) : Bool :=
  match ops[i]? with
  | none => false
  | some oi => readyB ops listed i && (List.range ops.size).all fun j => j == i || listed.getD j true || (A.getD j []).contains i || (match ops[j]? with
    | some oj => oi.apart ops oj && kindOk oi oj && decide (opKind oj ≠ 5 ∧ S i = false ∧ S j = false)
    | none => true)
/-- A plan: which operation next, and whether it comes first out of several. -/
def planB (ops : Array Oper) (S : Nat → Bool) (A : List (List Nat)) : List (Nat × Bool) → Array Bool → Option (Array Bool)
  | [], listed => some listed
  | (i, b) :: r, listed => if (if b then firstB ops S A listed i else decide (Region.ready .any ops listed = [i])) then planB ops S A r (listed.setIfInBounds i true) else none

def ACallP (P : Program) (st : AS) (c : Call) (f : Operand) (d : Option Nat) (K : AS → Prop) : Prop := ∃ g r, st.ev f = .fn g [] ∧ PCalls P g (c.args.toList.map st.ev) r ∧ K (st.put d r)
theorem ACallP.pure {st : AS} {c : Call} {f : Operand} {g : FuncId} {r : AV} {d : Option Nat} {K : AS → Prop} (hf : st.ev f = .fn g []) (h : PCalls P g (c.args.toList.map st.ev) r) (hk : K (st.put d r)) : ACallP P st c f d K := ⟨g, r, hf, h, hk⟩
/-- An operation alone: it tells one state. -/
def ASoloK (P : Program) (o : Oper) (st : AS) (K : AS → Prop) : Prop := ∃ st1, AStep P o st (fun s => s = st1) ∧ K st1
def AOpsD (P : Program) (G : List (Option Nat)) (K : AS → Prop) : List (Oper × Bool) → AS → Prop
  | [], st => K st
  | (o, b) :: rest, st => match AWant G o st with
    | some true => if b then ASoloK P o st (AOpsD P G K rest) else (match callsF o with
      | some (c, f) => ACallP P st c f o.dst (AOpsD P G K rest)
      | none => match aop P st o.op with
        | some r => AOpsD P G K rest ((AS.mk st.t r.2.1 r.2.2).put o.dst r.1)
        | none => opKind o = 5 ∧ ∃ st1, AStepX P o st (fun s => s = st1) ∧ AOpsD P G K rest st1)
    | some false => AOpsD P G K rest (st.put o.dst (.sc (.tuple #[])))
    | none => False
def AOpsDB : Program → List (Option Nat) → (AS → Prop) → List (Oper × Bool) → AS → Prop := Classical.choose (⟨AOpsD, rfl⟩ : ∃ f, f = AOpsD)
theorem AOpsDB_eq : AOpsDB = AOpsD := Classical.choose_spec (⟨AOpsD, rfl⟩ : ∃ f, f = AOpsD)
theorem AOpsD_nil {G : List (Option Nat)} {K : AS → Prop} {st : AS} : AOpsDB P G K [] st = K st := by rw [AOpsDB_eq, AOpsD]
theorem AOpsD_cons {G : List (Option Nat)} {K : AS → Prop} {o : Oper} {l : List (Oper × Bool)} {st : AS} : AOpsDB P G K ((o, false) :: l) st = (match AWant G o st with
    | some true => (match callsF o with
      | some (c, f) => ACallP P st c f o.dst (AOpsDB P G K l)
      | none => match aop P st o.op with
        | some r => AOpsDB P G K l ((AS.mk st.t r.2.1 r.2.2).put o.dst r.1)
        | none => opKind o = 5 ∧ ∃ st1, AStepX P o st (fun s => s = st1) ∧ AOpsDB P G K l st1)
    | some false => AOpsDB P G K l (st.put o.dst (.sc (.tuple #[])))
    | none => False) := by rw [AOpsDB_eq, AOpsD]; rfl
theorem AOpsD_cons_solo {G : List (Option Nat)} {K : AS → Prop} {o : Oper} {l : List (Oper × Bool)} {st : AS} : AOpsDB P G K ((o, true) :: l) st = (match AWant G o st with
    | some true => ASoloK P o st (AOpsDB P G K l)
    | some false => AOpsDB P G K l (st.put o.dst (.sc (.tuple #[])))
    | none => False) := by rw [AOpsDB_eq, AOpsD]; rfl
theorem AOpsD_step {G : List (Option Nat)} {o : Oper} {b : Bool} {rest : List (Oper × Bool)} {st : AS} {K : AS → Prop} (h : AOpsD P G K ((o, b) :: rest) st) : ∃ st1, DStepX P G b o st st1 ∧ AOpsD P G K rest st1 := by
  simp only [AOpsD] at h
  split at h
  · rename_i hw
    cases b with
    | true =>
      rw [if_pos rfl] at h
      obtain ⟨st1, h1, h2⟩ := h
      exact ⟨st1, .inr (.inl ⟨rfl, hw, h1⟩), h2⟩
    | false =>
      rw [if_neg (by simp)] at h
      split at h
      · rename_i c f hc
        obtain ⟨g, r, h1, h2, h3⟩ := h
        exact ⟨_, .inl (.inr ⟨hw, .inr ⟨c, f, g, r, hc, h1, h2, rfl⟩⟩), h3⟩
      · rename_i hc
        split at h
        · rename_i r hr
          exact ⟨_, .inl (.inr ⟨hw, .inl ⟨hc, r.1, r.2.1, r.2.2, hr, rfl⟩⟩), h⟩
        · rename_i hn
          obtain ⟨h5, st1, h6, h7⟩ := h
          exact ⟨st1, .inr (.inr ⟨h5, hw, hc, hn, h6⟩), h7⟩
  · rename_i hw
    exact ⟨_, .inl (.inl ⟨hw, rfl⟩), h⟩
  · exact h.elim

theorem plan_sound {S : Nat → Bool} {A : List (List Nat)} (hA : ∀ j, ∀ k ∈ A.getD j [], Anc ops j k) {listed' : Array Bool} {f' : Nat} {K' : AS → Prop} (hK : ∀ st, K' st → DAny P ops S K f' listed' st) :
    ∀ (plan : List (Nat × Bool)) (listed : Array Bool) (st : AS), Closed ops listed → planB ops S A plan listed = some listed' →
      AOpsD P (ops.toList.map (·.dst)) K' (plan.map fun p => (ops.getD p.1 default, S p.1)) st → DAny P ops S K (plan.length + f') listed st
  | [], listed, st, _, hp, h => by
    simp only [planB, Option.some.injEq] at hp
    subst hp
    simp only [List.map_nil, AOpsD] at h
    simpa using hK st h
  | (i, b) :: plan, listed, st, hcl, hp, h => by
    rw [planB] at hp
    by_cases hc : (if b = true then firstB ops S A listed i else decide (Region.ready .any ops listed = [i])) = true
    · rw [if_pos hc] at hp
      obtain ⟨st1, hs, hrest⟩ := AOpsD_step h
      simp only at hs
      rw [List.length_cons, show plan.length + 1 + f' = (plan.length + f') + 1 by omega]
      cases b with
      | true =>
        simp only [if_true] at hc
        unfold firstB at hc
        split at hc
        · cases hc
        · rename_i oi hoi
          simp only [Bool.and_eq_true] at hc
          obtain ⟨hc1, hc2⟩ := hc
          have hr := readyB_spec hc1
          have hget : ops.getD i default = oi := by simp [Array.getD_eq_getD_getElem?, hoi]
          rw [hget] at hs
          refine DAny_first hoi _ listed st st1 hcl ?_ hr hs (plan_sound hA hK plan _ st1 (hcl.set hr) hp hrest)
          intro j oj hoj hji hun
          have hlt : j < ops.size := (Array.getElem?_eq_some_iff.1 hoj).1
          have := List.all_eq_true.1 hc2 j (List.mem_range.2 hlt)
          simp only [Bool.or_eq_true, beq_iff_eq, hji, false_or, hun, Bool.false_eq_true, hoj, Bool.and_eq_true] at this
          rcases this with this | this
          · exact .inl (hA j i (by simpa using this))
          · exact .inr ⟨this.1.1, this.1.2, (by simpa using this.2 : _ ∧ _ ∧ _).1, (by simpa using this.2 : _ ∧ _ ∧ _).2.1, (by simpa using this.2 : _ ∧ _ ∧ _).2.2⟩
      | false =>
        simp only [Bool.false_eq_true, if_false, decide_eq_true_eq] at hc
        have hr : i ∈ Region.ready .any ops listed := by rw [hc]; simp
        obtain ⟨_, oi, hoi, _⟩ := mem_ready.1 hr
        have hget : ops.getD i default = oi := by simp [Array.getD_eq_getD_getElem?, hoi]
        rw [hget] at hs
        exact DAny_only hoi hc hs (plan_sound hA hK plan _ st1 (hcl.set hr) hp hrest)
    · rw [if_neg hc] at hp
      cases hp

/-! ### In the world -/
theorem DAny_sound {S : Nat → Bool} {base : Nat} {B0 : Nat → Nat → Prop} {Q : Exit → Act → World → Prop} {w0 : World} {β0 : Nat → Nat} {st0 : AS} (hds : dstsOk N ops.toList = true)
    (hk : ∀ a' w' β' st', Inv N a' w' B0 base β' st' → Ext w0 B0 β0 st0.n st0.H w' β' st'.n st'.H → K st' → Q .normal a' w') :
    ∀ (f : Nat) (listed : Array Bool) (a : Act) (w : World) (β : Nat → Nat) (st : AS), Inv N a w B0 base β st → Ext w0 B0 β0 st0.n st0.H w β st.n st.H → DAny P ops S K f listed st → wpAny P .any ops Q f listed a w
  | 0, listed, a, w, β, st, hi, he, h => by
    simp only [DAny] at h
    have hdom : Dom st := fun id hid => by
      cases hH : st.H id with
      | none => exact absurd hH hid
      | some o => exact hi.heap.dom id o hH
    exact ⟨(h hdom).1, hk a w β st hi he (h hdom).2⟩
  | f + 1, listed, a, w, β, st, hi, he, h => by
    rw [DAny] at h
    have hdom : Dom st := fun id hid => by
      cases hH : st.H id with
      | none => exact absurd hH hid
      | some o => exact hi.heap.dom id o hH
    obtain ⟨h1, h2⟩ := h hdom
    refine ⟨fun hr => hk a w β st hi he (h1 hr), fun i hir => ?_⟩
    obtain ⟨o, st', ho, hs, hd⟩ := h2 i hir
    have hdo : dstOk N o := by
      have hmem : o ∈ ops.toList := by
        rw [← Array.getElem?_toList] at ho
        exact List.mem_of_getElem? ho
      have := List.all_eq_true.1 hds o hmem
      unfold dstOk
      cases hd : o.dst <;> simp [hd] at this ⊢
      exact this
    unfold wpOp
    simp only [ho]
    rcases hs with hs | ⟨_, g1, g2⟩ | ⟨_, g1, g2, g3, g4⟩
    case inr.inl =>
      rw [if_pos (AWant_spec hi g1)]
      left
      exact AStep_sound (K := fun s => s = st') hi hdo g2 fun a' w' β' s k1 k2 k3 => by
        subst k3
        exact DAny_sound hds hk f _ a' w' β' s k1 (he.trans k2) hd
    case inr.inr =>
      rw [if_pos (AWant_spec hi g1)]
      left
      refine AStep_sound (K := fun s => s = st') hi hdo ?_ fun a' w' β' s k1 k2 k3 => by
        subst k3
        exact DAny_sound hds hk f _ a' w' β' s k1 (he.trans k2) hd
      unfold AStep
      rw [g2]
      simp only [g3]
      exact g4
    rcases hs with ⟨g1, g2⟩ | ⟨g1, g2⟩
    · rw [if_neg (by rw [AWant_spec hi g1]; simp)]
      have h3 := hi.put (d := o.dst) (v := .sc (.tuple #[])) (u := undef) hdo hi.heap (Ext.refl _ _ _ _ _) (by simp only [RepV]; rfl)
      subst g2
      refine DAny_sound hds hk f _ _ w β _ h3 ?_ hd
      cases o.dst <;> exact he
    · rw [if_pos (AWant_spec hi g1)]
      left
      refine AStep_sound (K := fun s => s = st') hi hdo ?_ fun a' w' β' s k1 k2 k3 => by
        subst k3
        exact DAny_sound hds hk f _ a' w' β' s k1 (he.trans k2) hd
      unfold AStep
      rcases g2 with ⟨g2, v, H', n', g3, g4⟩ | ⟨c, f', g, r, g2, g3, g4, g5⟩
      · rw [g2]
        simp only [g3]
        exact g4.symm
      · rw [g2]
        refine .inl ⟨g, [], (fun r' H' n' => r' = r ∧ H' = st.H ∧ n' = st.n), g3, by rw [List.append_nil]; exact g4.here st.H st.n, fun r' H' n' hq => ?_⟩
        obtain ⟨e1, e2, e3⟩ := hq
        subst e1; subst e2; subst e3
        exact g5.symm

theorem ADraw.of_any {S : Nat → Bool} {id : Nat} {Q : Exit → AS → Prop} {st : AS} (hm : P.follows .mixedOrders = true) (hds : dstsOk N ops.toList = true)
    (h : DAny P ops S (Q .normal) ops.size (Array.replicate ops.size false) st) : ADraw P N id ops Q st := by
  intro a w B0 base β hi
  refine wp_region_any hm ?_
  have hb : RowKit.Below w.heap.size w { w with drawn := w.drawn + 1 } := ⟨rfl, rfl, rfl, Nat.le_refl _, fun _ _ => rfl⟩
  have hi' : Inv N a { w with drawn := w.drawn + 1 } B0 base β st := ⟨hi.size, hi.defers, fun i => (hi.tmps i).mono (Ext.of_below (n := st.n) hb).pres (fun _ _ => rfl) (Nat.le_refl _), hi.heap.below hb, hi.b0, hi.base⟩
  exact DAny_sound (Q := APost N w B0 base β st Q) (w0 := w) (β0 := β) (st0 := st) hds (fun a' w' β' st' h1 h2 h3 => ⟨st', β', h1, h2, h3⟩) _ _ a _ β st hi' (Ext.of_below hb) h
theorem Closed.none : Closed ops (Array.replicate ops.size false) := by
  intro j o _ h
  exfalso
  rw [Array.getD_eq_getD_getElem?, Array.getElem?_replicate] at h
  split at h <;> simp at h
/-- The rule: a plan for all operations; those of S come up alone. -/
theorem ADraw.planS {id : Nat} {Q : Exit → AS → Prop} {st : AS} (S : List Nat) (plan : List (Nat × Bool)) (hm : P.follows .mixedOrders = true)
    (hc : (dstsOk N ops.toList && decide (plan.length = ops.size) && (match planB ops (fun i => S.contains i) (ancs ops.toList []) plan (Array.replicate ops.size false) with | some l => (Region.ready .any ops l).isEmpty | none => false)) = true)
    (h : AOpsDB P (ops.toList.map (·.dst)) (Q .normal) (plan.map fun p => (ops.getD p.1 default, S.contains p.1)) st) : ADraw P N id ops Q st := by
  simp only [Bool.and_eq_true, decide_eq_true_eq] at hc
  obtain ⟨⟨h1, h2⟩, h3⟩ := hc
  split at h3
  · rename_i l hl
    refine ADraw.of_any (S := fun i => S.contains i) hm h1 ?_
    have hA := ancs_ok (ops := ops) ops.toList [] (fun i => by simp) (fun j k hk => by simp at hk)
    have := plan_sound (P := P) (S := fun i => S.contains i) (K := Q .normal) hA (listed' := l) (f' := 0) (K' := Q .normal) (fun s hs => by
      simp only [DAny]
      intro _
      exact ⟨by simpa using h3, hs⟩) plan _ st Closed.none hl (by rw [← AOpsDB_eq]; exact h)
    rw [Nat.add_zero, h2] at this
    exact this
  · cases h3
/-- The rule: a plan for all operations. -/
theorem ADraw.plan {id : Nat} {Q : Exit → AS → Prop} {st : AS} (plan : List (Nat × Bool)) (hm : P.follows .mixedOrders = true)
    (hc : (dstsOk N ops.toList && decide (plan.length = ops.size) && (match planB ops (fun _ => false) (ancs ops.toList []) plan (Array.replicate ops.size false) with | some l => (Region.ready .any ops l).isEmpty | none => false)) = true)
    (h : AOpsDB P (ops.toList.map (·.dst)) (Q .normal) (plan.map fun p => (ops.getD p.1 default, false)) st) : ADraw P N id ops Q st :=
  ADraw.planS [] plan hm hc h
end
end Go.Al
