/- Stacks of items, plainly: places, kinds, what stays. Conditions: none. -/
import Derived.Test.YthglbfgmohgfdaaAc1
set_option linter.unusedVariables false
set_option linter.unusedSimpArgs false
namespace Go.Al
def idxT (t : Int × Int → Bool) (l : List (Int × Int)) : Int := match l.findIdx? t with | some i => i | none => -1
section
variable {t : Int × Int → Bool} {l : List (Int × Int)}
theorem idxT_hit {p : Nat} {x : Int × Int} (h : l[p]? = some x) (hx : t x = true) (hq : ∀ (q : Nat) (y : Int × Int), q < p → l[q]? = some y → t y = false) : idxT t l = p := by
  obtain ⟨hp, e⟩ := List.getElem?_eq_some_iff.1 h
  have : l.findIdx? t = some p := by
    rw [List.findIdx?_eq_some_iff_getElem]
    refine ⟨hp, by rw [e]; exact hx, fun j hj => ?_⟩
    have := hq j _ hj (List.getElem?_eq_getElem (by omega))
    simp [this]
  simp [idxT, this]
theorem idxT_miss (hq : ∀ (q : Nat) (y : Int × Int), q < l.length → l[q]? = some y → t y = false) : idxT t l = -1 := by
  have : l.findIdx? t = none := by
    rw [List.findIdx?_eq_none_iff]
    intro x hx
    obtain ⟨q, h1, h2⟩ := List.mem_iff_getElem.1 hx
    exact hq q x h1 (by rw [List.getElem?_eq_getElem h1, h2])
  simp [idxT, this]
theorem idxT_cases (t : Int × Int → Bool) (l : List (Int × Int)) : (idxT t l = -1 ∧ ∀ y ∈ l, t y = false) ∨ ∃ (p : Nat) (x : Int × Int), idxT t l = p ∧ l[p]? = some x ∧ t x = true ∧ ∀ (q : Nat) (y : Int × Int), q < p → l[q]? = some y → t y = false := by
  unfold idxT
  cases e : l.findIdx? t with
  | none =>
    rw [List.findIdx?_eq_none_iff] at e
    exact .inl ⟨rfl, e⟩
  | some p =>
    rw [List.findIdx?_eq_some_iff_getElem] at e
    obtain ⟨hp, h1, h2⟩ := e
    refine .inr ⟨p, l[p], rfl, List.getElem?_eq_getElem hp, h1, fun q y hq hy => ?_⟩
    obtain ⟨hq2, e2⟩ := List.getElem?_eq_some_iff.1 hy
    have := h2 q hq
    rw [e2] at this
    simpa using this
end
/-- A key's place. -/
def idxK (l : List (Int × Int)) (k : Int) : Int := idxT (fun x => decide (x.1 = k)) l
/-- How many items are of a kind. -/
def many (k : Int) (S : List (Int × Int)) : Nat := (S.filter fun x => decide (x.2 = k)).length
/-- The last place of a kind, and one more; 0: there is none. -/
def upTo (k : Int) : List (Int × Int) → Nat
  | [] => 0
  | x :: S => if 0 < upTo k S then upTo k S + 1 else if x.2 = k then 1 else 0
section
variable {k j : Int} {S A B : List (Int × Int)}
theorem many_le (k : Int) (S : List (Int × Int)) : many k S ≤ S.length := List.length_filter_le _ _
theorem many_append (k : Int) (A B : List (Int × Int)) : many k (A ++ B) = many k A + many k B := by unfold many; rw [List.filter_append, List.length_append]
theorem many_cons (k : Int) (x : Int × Int) (S : List (Int × Int)) : many k (x :: S) = (if x.2 = k then 1 else 0) + many k S := by
  unfold many
  rw [List.filter_cons]
  by_cases h : x.2 = k
  · rw [if_pos (by simpa using h), if_pos h, List.length_cons]; omega
  · rw [if_neg (by simpa using h), if_neg h]; omega
theorem many_zero : many k S = 0 ↔ ∀ x ∈ S, x.2 ≠ k := by
  unfold many
  rw [List.length_eq_zero_iff, List.filter_eq_nil_iff]
  exact ⟨fun h x hx => by simpa using h x hx, fun h x hx => by simpa using h x hx⟩
theorem upTo_le : ∀ (S : List (Int × Int)), upTo k S ≤ S.length
  | [] => Nat.le_refl _
  | x :: S => by
    have := upTo_le S
    unfold upTo
    rw [List.length_cons]
    split
    · omega
    · split <;> omega
/-- Where the last item of a kind is. -/
theorem upTo_spec : ∀ (S : List (Int × Int)), (upTo k S = 0 ∧ ∀ x ∈ S, x.2 ≠ k) ∨ ∃ A x B, S = A ++ x :: B ∧ upTo k S = A.length + 1 ∧ x.2 = k ∧ ∀ y ∈ B, y.2 ≠ k
  | [] => .inl ⟨rfl, fun x hx => (nomatch hx)⟩
  | x :: S => by
    rcases upTo_spec S with ⟨h1, h2⟩ | ⟨A, y, B, h1, h2, h3, h4⟩
    · by_cases hx : x.2 = k
      · refine .inr ⟨[], x, S, rfl, ?_, hx, h2⟩
        unfold upTo
        rw [h1, if_neg (by omega), if_pos hx]; rfl
      · refine .inl ⟨?_, fun y hy => ?_⟩
        · unfold upTo
          rw [h1, if_neg (by omega), if_neg hx]
        · rcases List.mem_cons.1 hy with rfl | h
          · exact hx
          · exact h2 y h
    · refine .inr ⟨x :: A, y, B, by rw [h1]; rfl, ?_, h3, h4⟩
      unfold upTo
      rw [h2, if_pos (by omega)]; rfl
theorem upTo_at {x : Int × Int} (hx : x.2 = k) (hB : ∀ y ∈ B, y.2 ≠ k) : upTo k (A ++ x :: B) = A.length + 1 := by
  have h0 : ∀ (B : List (Int × Int)), (∀ y ∈ B, y.2 ≠ k) → upTo k B = 0 := by
    intro B
    induction B with
    | nil => intro _; rfl
    | cons y B ih =>
      intro h
      unfold upTo
      rw [ih fun z hz => h z (List.mem_cons_of_mem _ hz), if_neg (by omega), if_neg (h y List.mem_cons_self)]
  induction A with
  | nil =>
    show upTo k (x :: B) = _
    unfold upTo
    rw [h0 B hB, if_neg (by omega), if_pos hx]; rfl
  | cons y A ih =>
    show upTo k (y :: (A ++ x :: B)) = _
    unfold upTo
    rw [ih, if_pos (by omega)]; rfl
theorem upTo_none (h : ∀ y ∈ S, y.2 ≠ k) : upTo k S = 0 := by
  rcases upTo_spec (k := k) S with ⟨h1, _⟩ | ⟨A, x, B, h1, _, h3, _⟩
  · exact h1
  · exact absurd h3 (h x (by rw [h1]; simp))
end
end Go.Al
