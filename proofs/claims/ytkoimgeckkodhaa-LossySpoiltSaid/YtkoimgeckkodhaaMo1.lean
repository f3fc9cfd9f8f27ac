/- Five policies as one kind of thing: what acts leave, and what they evict. Conditions: none. -/
import Derived.Test.YtkoimgeckkodhaaMr4
import Derived.Test.YtkoimgeckkodhaaMq1
import Derived.Test.YtkoimgeckkodhaaMq2
import Derived.Test.YtkoimgeckkodhaaMq3
import Derived.Test.YtkoimgeckkodhaaMq4
import Derived.Test.YtkoimgeckkodhaaMq5
set_option linter.unusedVariables false
set_option linter.unusedSimpArgs false
set_option maxRecDepth 20000
set_option maxHeartbeats 3200000
namespace Go.Al
open Go.Proofs
theorem sub_eq {a b : List Int} (ha : a.Nodup) (hs : ∀ x ∈ a, x ∈ b) (hl : b.length ≤ a.length) {x : Int} (hx : x ∈ b) : x ∈ a := by
  apply Classical.byContradiction
  intro hn
  have := sub_len (a := x :: a) (b := b) (List.nodup_cons.2 ⟨hn, ha⟩) (fun y hy => by
    rcases List.mem_cons.1 hy with rfl | h
    · exact hx
    · exact hs y h)
  rw [List.length_cons] at this
  omega
theorem filter_len {was out : List Int} (hw : was.Nodup) : was.length ≤ (was.filter fun x => decide (x ∉ out)).length + out.length := by
  have := sub_len (a := was) (b := (was.filter fun x => decide (x ∉ out)) ++ out) hw (fun x hx => by
    by_cases h : x ∈ out
    · exact List.mem_append_right _ h
    · exact List.mem_append_left _ (List.mem_filter.2 ⟨hx, by simpa using h⟩))
  rw [List.length_append] at this
  exact this
section
variable {was is out : List Int} {there : Bool} {key size : Int}
theorem ev_touch (h : EvOk was is [] 1 there key size) (hw : was.Nodup) (x : Int) : x ∈ is ↔ x ∈ was := by
  have hs : ∀ y ∈ was, y ∈ is := fun y hy => by
    rcases h.e2 y hy with h1 | h1 | h1
    · cases h1
    · exact h1
    · omega
  have hl := h.len
  rw [if_neg (by omega), if_neg (by omega), List.length_nil] at hl
  exact ⟨fun hx => sub_eq hw hs (by omega) hx, hs x⟩
theorem ev_drop (h : EvOk was is [] 3 (decide (key ∈ was)) key size) (hw : was.Nodup) (x : Int) : x ∈ is ↔ x ∈ was ∧ x ≠ key := by
  have hs : ∀ y ∈ without was key, y ∈ is := fun y hy => by
    obtain ⟨g1, g2⟩ := mem_without.1 hy
    rcases h.e2 y g1 with h1 | h1 | h1
    · cases h1
    · exact h1
    · exact absurd h1.2 g2
  have hl := h.len
  have hc : is.length ≤ (without was key).length := by
    rw [if_neg (by omega), List.length_nil] at hl
    by_cases hk : key ∈ was
    · rw [if_pos ⟨rfl, by simp [hk]⟩] at hl
      have := without_mem_len hw hk
      omega
    · rw [if_neg (by simp [hk])] at hl
      rw [without_same hk]
      omega
  rw [← mem_without]
  exact ⟨fun hx => sub_eq (without_nodup key hw) hs hc hx, hs x⟩
theorem ev_admit (h : EvOk was is out 2 false key size) (hw : was.Nodup) (hk : key ∉ was) (hi : key ∈ is) (x : Int) : x ∈ is ↔ x = key ∨ (x ∈ was ∧ x ∉ out) := by
  have hs : ∀ y ∈ key :: (was.filter fun x => decide (x ∉ out)), y ∈ is := fun y hy => by
    rcases List.mem_cons.1 hy with rfl | hy
    · exact hi
    · obtain ⟨g1, g2⟩ := List.mem_filter.1 hy
      rcases h.e2 y g1 with h1 | h1 | h1
      · simp [h1] at g2
      · exact h1
      · omega
  have hl := h.len
  rw [if_pos ⟨rfl, rfl⟩, if_neg (by omega)] at hl
  have hf := filter_len (out := out) hw
  have hn : (key :: (was.filter fun x => decide (x ∉ out))).Nodup := List.nodup_cons.2 ⟨fun h => hk (List.mem_filter.1 h).1, hw.sublist List.filter_sublist⟩
  constructor
  · intro hx
    rcases List.mem_cons.1 (sub_eq hn hs (by rw [List.length_cons]; omega) hx) with h1 | h1
    · exact .inl h1
    · obtain ⟨g1, g2⟩ := List.mem_filter.1 h1
      exact .inr ⟨g1, by simpa using g2⟩
  · rintro (rfl | ⟨g1, g2⟩)
    · exact hi
    · exact hs x (List.mem_cons_of_mem _ (List.mem_filter.2 ⟨g1, by simpa using g2⟩))
theorem ev_resize (h : EvOk was is out 4 there key size) (hw : was.Nodup) (x : Int) : x ∈ is ↔ (x ∈ was ∧ x ∉ out) := by
  have hs : ∀ y ∈ (was.filter fun x => decide (x ∉ out)), y ∈ is := fun y hy => by
    obtain ⟨g1, g2⟩ := List.mem_filter.1 hy
    rcases h.e2 y g1 with h1 | h1 | h1
    · simp [h1] at g2
    · exact h1
    · omega
  have hl := h.len
  rw [if_neg (by omega), if_neg (by omega)] at hl
  have hf := filter_len (out := out) hw
  constructor
  · intro hx
    obtain ⟨g1, g2⟩ := List.mem_filter.1 (sub_eq (hw.sublist List.filter_sublist) hs (by omega) hx)
    exact ⟨g1, by simpa using g2⟩
  · rintro ⟨g1, g2⟩
    exact hs x (List.mem_filter.2 ⟨g1, by simpa using g2⟩)
theorem perm_out {R N : List Int} (hw : was.Nodup) (hp : (out ++ R).Perm was) : out.Nodup ∧ (∀ x ∈ out, x ∈ was) ∧ ∀ x, x ∈ R ↔ x ∈ was ∧ x ∉ out := by
  have hn := hp.nodup_iff.2 hw
  obtain ⟨h1, h2, h3⟩ := List.nodup_append.1 hn
  refine ⟨h1, fun x hx => hp.subset (List.mem_append_left _ hx), fun x => ⟨fun hx => ⟨hp.subset (List.mem_append_right _ hx), fun ho => h3 x ho x hx rfl⟩, fun ⟨hx, ho⟩ => ?_⟩⟩
  rcases List.mem_append.1 (hp.symm.subset hx) with h | h
  · exact absurd h ho
  · exact h
end
def dT (k : Int) : Deed := ⟨2, k, 0⟩
def dA (k : Int) : Deed := ⟨3, k, 0⟩
def dD (k : Int) : Deed := ⟨0, k, 0⟩
def dR (c : Int) : Deed := ⟨1, 0, c - 1⟩
theorem dT_fits {k : Int} (h : KeyOk k) : (dT k).Fits := ⟨by show (0 : Int) ≤ 2; omega, by show (2 : Int) < 256; omega, h.1, h.2, by show (0 : Int) ≤ 0; omega, by show (0 : Int) < 65536; omega⟩
theorem dA_fits {k : Int} (h : KeyOk k) : (dA k).Fits := ⟨by show (0 : Int) ≤ 3; omega, by show (3 : Int) < 256; omega, h.1, h.2, by show (0 : Int) ≤ 0; omega, by show (0 : Int) < 65536; omega⟩
theorem dD_fits {k : Int} (h : KeyOk k) : (dD k).Fits := ⟨by show (0 : Int) ≤ 0; omega, by show (0 : Int) < 256; omega, h.1, h.2, by show (0 : Int) ≤ 0; omega, by show (0 : Int) < 65536; omega⟩
theorem dR_fits {c : Int} (h0 : 1 ≤ c) (h1 : c ≤ 14) : (dR c).Fits := ⟨by show (0 : Int) ≤ 1; omega, by show (1 : Int) < 256; omega, by show (0 : Int) ≤ 0; omega, by show (0 : Int) < _; omega, by show 0 ≤ c - 1; omega, by show c - 1 < 65536; omega⟩
theorem kT (k : Int) (t : Bool) : kindOf (dT k) t = 1 := rfl
theorem kA (k : Int) (t : Bool) : kindOf (dA k) t = 2 := rfl
theorem kD (k : Int) (t : Bool) : kindOf (dD k) t = 3 := rfl
theorem kR' (c : Int) (t : Bool) : kindOf (dR c) t = 4 := rfl
theorem dR_size {c : Int} (h0 : 1 ≤ c) (h1 : c ≤ 14) : sizeOf' (dR c) = c := by
  show 1 + (c - 1).tmod 14 = c
  rw [Int.tmod_eq_emod_of_nonneg (by omega)]
  omega
end Go.Al
