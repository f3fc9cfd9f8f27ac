/- Low inter-reference recency, plainly: the keys of a stack and a queue, and what stays. Conditions: none. -/
import Derived.Test.YthglbfgmohgfdaaKr2
set_option linter.unusedVariables false
set_option linter.unusedSimpArgs false
namespace Go.Al
/-- No key is twice; each cold item's key is in the queue, and no other item's is. -/
structure LiB (S : List (Int × Int)) (Q : List Int) : Prop where
  sn : (S.map Prod.fst).Nodup
  qn : Q.Nodup
  kd : ∀ x ∈ S, x.2 = 0 ∨ x.2 = 1 ∨ x.2 = 2
  cq : ∀ x ∈ S, x.1 ∈ Q ↔ x.2 = 1
section
variable {S S' A B : List (Int × Int)} {Q Q' : List Int} {k kd : Int}
theorem LiB.sub (h : LiB S Q) (hs : S'.Sublist S) : LiB S' Q :=
  ⟨h.sn.sublist (hs.map _), h.qn, fun x hx => h.kd x (hs.subset hx), fun x hx => h.cq x (hs.subset hx)⟩
theorem mem_hotK : k ∈ hotK S ↔ (k, 2) ∈ S := by
  unfold hotK
  simp only [List.mem_map, List.mem_filter, decide_eq_true_eq]
  constructor
  · rintro ⟨x, ⟨h1, h2⟩, rfl⟩
    rw [← h2]; exact h1
  · intro h
    exact ⟨_, ⟨h, rfl⟩, rfl⟩
theorem hotK_append (A B : List (Int × Int)) : hotK (A ++ B) = hotK A ++ hotK B := by simp [hotK]
theorem hotK_cons (x : Int × Int) (B : List (Int × Int)) : hotK (x :: B) = (if x.2 = 2 then [x.1] else []) ++ hotK B := by
  unfold hotK
  by_cases h : x.2 = 2
  · rw [if_pos h, List.filter_cons_of_pos (by simpa using h)]; rfl
  · rw [if_neg h, List.filter_cons_of_neg (by simpa using h)]; rfl
theorem hotK_nil (h : ∀ y ∈ B, y.2 ≠ 2) : hotK B = [] := by
  unfold hotK
  rw [List.filter_eq_nil_iff.2 (fun y hy => by simpa using h y hy)]; rfl
theorem hotK_sub (h : S'.Sublist S) : (hotK S').Sublist (hotK S) := (h.filter _).map _
theorem key_one (h : (S.map Prod.fst).Nodup) {x y : Int × Int} (hx : x ∈ S) (hy : y ∈ S) (e : x.1 = y.1) : x = y := by
  induction S with
  | nil => cases hx
  | cons z S ih =>
    rw [List.map_cons, List.nodup_cons] at h
    rcases List.mem_cons.1 hx with e1 | hx'
    · rcases List.mem_cons.1 hy with e2 | hy'
      · rw [e1, e2]
      · exact absurd (List.mem_map.2 ⟨y, hy', by rw [← e, e1]⟩) h.1
    · rcases List.mem_cons.1 hy with e2 | hy'
      · exact absurd (List.mem_map.2 ⟨x, hx', by rw [e, e2]⟩) h.1
      · exact ih h.2 hx' hy'
theorem idxK_hit (hi : idxK S k ≥ 0) : ∃ A x B, S = A ++ x :: B ∧ idxK S k = A.length ∧ x.1 = k ∧ ∀ y ∈ A, y.1 ≠ k := by
  rcases idxT_cases (fun x => decide (x.1 = k)) S with ⟨h, _⟩ | ⟨p, x, h, hx, ht, hq⟩
  · have h : idxK S k = -1 := h
    omega
  · have h : idxK S k = p := h
    obtain ⟨hp, e⟩ := List.getElem?_eq_some_iff.1 hx
    refine ⟨S.take p, x, S.drop (p + 1), by rw [← e, List.getElem_cons_drop, List.take_append_drop], by rw [h, List.length_take]; omega, by simpa using ht, fun y hy => ?_⟩
    obtain ⟨q, h1, h2⟩ := List.mem_iff_getElem.1 hy
    rw [List.length_take] at h1
    rw [List.getElem_take] at h2
    have := hq q y (by omega) (by rw [← h2]; exact List.getElem?_eq_getElem (by omega))
    simpa using this
theorem idxK_miss : idxK S k < 0 ↔ ∀ x ∈ S, x.1 ≠ k := by
  rcases idxT_cases (fun x => decide (x.1 = k)) S with ⟨h, h2⟩ | ⟨p, x, h, hx, ht, hq⟩
  · have h : idxK S k = -1 := h
    exact ⟨fun _ y hy => by simpa using h2 y hy, fun _ => by omega⟩
  · have h : idxK S k = p := h
    exact ⟨fun h => by omega, fun h => absurd (by simpa using ht) (h x (List.mem_of_getElem? hx))⟩
/-- A stack without a key. -/
theorem remK_filter (h : (S.map Prod.fst).Nodup) (k : Int) : remK S k = S.filter fun x => decide (x.1 ≠ k) := by
  unfold remK takeP
  by_cases hi : idxK S k < 0
  · rw [if_pos hi]
    rw [List.filter_eq_self.2]
    intro x hx
    simpa using idxK_miss.1 hi x hx
  · rw [if_neg hi]
    obtain ⟨A, x, B, h1, h2, h3, h4⟩ := idxK_hit (S := S) (k := k) (by omega)
    rw [h2, show ((A.length : Nat) : Int).toNat = A.length from rfl, h1, List.eraseIdx_append_of_length_le (Nat.le_refl _), Nat.sub_self]
    rw [h1, List.map_append, List.map_cons, List.nodup_append, List.nodup_cons] at h
    rw [List.filter_append, List.filter_cons_of_neg (by simp [h3]), List.filter_eq_self.2 (fun y hy => by simpa using h4 y hy), List.filter_eq_self.2]
    · rfl
    · intro y hy
      have := h.2.1.1
      simp only [decide_eq_true_eq]
      intro e
      exact this (List.mem_map.2 ⟨y, hy, by rw [e, h3]⟩)
theorem mem_remK (h : (S.map Prod.fst).Nodup) {x : Int × Int} : x ∈ remK S k ↔ x ∈ S ∧ x.1 ≠ k := by rw [remK_filter h, List.mem_filter]; simp
theorem remK_sub (S : List (Int × Int)) (k : Int) : (remK S k).Sublist S := by
  unfold remK takeP
  split
  · exact List.Sublist.refl _
  · exact List.eraseIdx_sublist ..
theorem hotK_remK (h : (S.map Prod.fst).Nodup) (k : Int) : hotK (remK S k) = without (hotK S) k := by
  rw [remK_filter h]
  unfold hotK without
  rw [List.filter_map, List.filter_filter, List.filter_filter]
  congr 1
  apply List.filter_congr
  intro x hx
  simp [Bool.and_comm]
theorem many_sub (h : S'.Sublist S) (j : Int) : many j S' ≤ many j S := (h.filter _).length_le
/-- A key is put first. -/
theorem LiB.put (h : LiB S Q) (k : Int) {kd : Int} (hk : kd = 1 ∨ kd = 2) (hq : Q'.Nodup) (ho : ∀ x, x ≠ k → (x ∈ Q' ↔ x ∈ Q)) (hm : k ∈ Q' ↔ kd = 1) : LiB ((k, kd) :: remK S k) Q' := by
  refine ⟨?_, hq, ?_, ?_⟩
  · rw [List.map_cons, List.nodup_cons]
    refine ⟨?_, (h.sub (remK_sub S k)).sn⟩
    intro hm
    obtain ⟨x, hx, e⟩ := List.mem_map.1 hm
    exact ((mem_remK h.sn).1 hx).2 e
  · intro x hx
    rcases List.mem_cons.1 hx with rfl | hx
    · rcases hk with rfl | rfl
      · exact .inr (.inl rfl)
      · exact .inr (.inr rfl)
    · exact h.kd x ((remK_sub S k).subset hx)
  · intro x hx
    rcases List.mem_cons.1 hx with rfl | hx
    · exact hm
    · obtain ⟨h1, h2⟩ := (mem_remK h.sn).1 hx
      rw [ho _ h2]
      exact h.cq x h1
theorem LiB.hot_out (h : LiB S Q) (hk : k ∈ hotK S) : k ∉ Q := fun hq => by
  have : (2 : Int) = 1 := (h.cq _ (mem_hotK.1 hk)).1 hq
  omega
theorem LiB.hot_nodup (h : LiB S Q) : (hotK S).Nodup := (h.sn).sublist ((List.filter_sublist).map _)
theorem LiB.keys (h : LiB S Q) : (hotK S ++ Q).Nodup := by
  rw [List.nodup_append]
  refine ⟨h.hot_nodup, h.qn, fun a ha b hb e => ?_⟩
  subst e
  exact h.hot_out ha hb
theorem pruned_sub (S : List (Int × Int)) : (pruned S).Sublist S := List.take_sublist _ _
theorem hotK_pruned (S : List (Int × Int)) : hotK (pruned S) = hotK S := by
  unfold pruned
  rcases upTo_spec (k := 2) S with ⟨h1, h2⟩ | ⟨A, x, B, h1, h2, h3, h4⟩
  · rw [h1, List.take_zero, hotK_nil h2]; rfl
  · rw [h2]
    have e : S.take (A.length + 1) = A ++ [x] := by
      rw [h1, show A ++ x :: B = (A ++ [x]) ++ B by simp, List.take_left' (by simp)]
    rw [e]
    conv => rhs; rw [h1, show A ++ x :: B = (A ++ [x]) ++ B by simp, hotK_append, hotK_nil h4, List.append_nil]
/-- The last one is hot, if there is one. -/
def HotEnd (S : List (Int × Int)) : Prop := ∀ x, S.getLast? = some x → x.2 = 2
theorem hotEnd_pruned (S : List (Int × Int)) : HotEnd (pruned S) := by
  unfold pruned
  rcases upTo_spec (k := 2) S with ⟨h1, h2⟩ | ⟨A, x, B, h1, h2, h3, h4⟩
  · rw [h1, List.take_zero]
    intro x hx
    cases hx
  · rw [h2]
    have e : S.take (A.length + 1) = A ++ [x] := by
      rw [h1, show A ++ x :: B = (A ++ [x]) ++ B by simp, List.take_left' (by simp)]
    rw [e]
    intro y hy
    rw [List.getLast?_append, List.getLast?_singleton] at hy
    cases hy
    exact h3
end
end Go.Al
