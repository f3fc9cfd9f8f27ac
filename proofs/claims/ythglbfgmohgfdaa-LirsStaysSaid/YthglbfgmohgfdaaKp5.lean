/- Low inter-reference recency, plainly: what stays where it is cooled, shrunk, forgotten. Conditions: none. -/
import Derived.Test.YthglbfgmohgfdaaKp4
set_option linter.unusedVariables false
set_option linter.unusedSimpArgs false
namespace Go.Al
theorem liKeys_len (s : LS) : (liKeys s).length = many 2 s.S + s.Q.length := by unfold liKeys; rw [List.length_append, hotK_len]
section
variable {S A B : List (Int × Int)} {Q q : List Int} {k kd : Int} {x : Int × Int}
/-- An item is of another kind. -/
theorem LiB.set (h : LiB (A ++ x :: B) Q) {kd : Int} (hk : kd = 0 ∨ kd = 1 ∨ kd = 2) {q : List Int} (hq : q.Nodup) (ho : ∀ y, y ≠ x.1 → (y ∈ q ↔ y ∈ Q)) (hm : x.1 ∈ q ↔ kd = 1) : LiB (A ++ (x.1, kd) :: B) q := by
  have hn := h.sn
  have hn2 := hn
  rw [List.map_append, List.map_cons, List.nodup_append, List.nodup_cons] at hn2
  have ha : ∀ y ∈ A, y.1 ≠ x.1 := fun y hy e => hn2.2.2 y.1 (List.mem_map.2 ⟨y, hy, rfl⟩) x.1 List.mem_cons_self e
  have hb : ∀ y ∈ B, y.1 ≠ x.1 := fun y hy e => hn2.2.1.1 (List.mem_map.2 ⟨y, hy, e⟩)
  refine ⟨?_, hq, fun y hy => ?_, fun y hy => ?_⟩
  · rw [List.map_append, List.map_cons] at hn ⊢
    exact hn
  · rcases List.mem_append.1 hy with hy | hy
    · exact h.kd y (List.mem_append_left _ hy)
    · rcases List.mem_cons.1 hy with rfl | hy
      · exact hk
      · exact h.kd y (List.mem_append_right _ (List.mem_cons_of_mem _ hy))
  · rcases List.mem_append.1 hy with hy | hy
    · rw [ho _ (ha y hy)]
      exact h.cq y (List.mem_append_left _ hy)
    · rcases List.mem_cons.1 hy with rfl | hy
      · exact hm
      · rw [ho _ (hb y hy)]
        exact h.cq y (List.mem_append_right _ (List.mem_cons_of_mem _ hy))
end
theorem lastQ_new {Q : List Int} {k : Int} (h : k ∉ Q) : lastQ Q k = Q ++ [k] := by unfold lastQ; rw [without_same h]
theorem lastQ_nodup {Q : List Int} (k : Int) (h : Q.Nodup) : (lastQ Q k).Nodup := by
  unfold lastQ
  rw [List.nodup_append]
  refine ⟨without_nodup k h, (by simp), fun a ha b hb e => ?_⟩
  rw [List.mem_singleton] at hb
  exact (mem_without.1 ha).2 (e.trans hb)
theorem mem_lastQ {Q : List Int} {k y : Int} (h : y ≠ k) : y ∈ lastQ Q k ↔ y ∈ Q := by
  unfold lastQ
  rw [List.mem_append, mem_without, List.mem_singleton]
  exact ⟨fun h2 => by rcases h2 with h2 | h2; exact h2.1; exact absurd h2 h, fun h2 => .inl ⟨h2, h⟩⟩
theorem self_lastQ (Q : List Int) (k : Int) : k ∈ lastQ Q k := by unfold lastQ; simp
/-- The last hot one, taken apart. -/
theorem coolS_at {s : LS} (h : LiB s.S s.Q) (h0 : 0 < many 2 s.S) : ∃ A x B, s.S = A ++ x :: B ∧ upTo 2 s.S = A.length + 1 ∧ x.2 = 2 ∧ (∀ y ∈ B, y.2 ≠ 2) ∧ x.1 ∉ s.Q ∧ coolS s = ⟨s.C, pruned (A ++ (x.1, 1) :: B), s.Q ++ [x.1]⟩ := by
  obtain ⟨A, x, B, h1, h2, h3, h4⟩ := last_of h0
  have hx : x.1 ∉ s.Q := fun hq => by
    have := (h.cq x (by rw [h1]; simp)).1 hq
    omega
  refine ⟨A, x, B, h1, h2, h3, h4, hx, ?_⟩
  have hd : s.S.getD (upTo 2 s.S - 1) (0, 0) = x := by
    rw [h2, Nat.add_sub_cancel, List.getD_eq_getElem?_getD]
    conv => lhs; rw [h1]
    rw [List.getElem?_append_right (Nat.le_refl _), Nat.sub_self]; rfl
  unfold coolS
  rw [hd, lastQ_new hx, h2, Nat.add_sub_cancel]
  conv => lhs; rw [h1, setKd_at]
theorem coolS_ok {s : LS} (h : LiB s.S s.Q) (h0 : 0 < many 2 s.S) : LiB (coolS s).S (coolS s).Q ∧ (liKeys (coolS s)).Perm (liKeys s) ∧ many 0 (coolS s).S ≤ many 0 s.S := by
  obtain ⟨A, x, B, h1, h2, h3, h4, h5, h6⟩ := coolS_at h h0
  rw [h6]
  have h7 := lastQ_new h5
  refine ⟨?_, ?_, ?_⟩
  · refine LiB.sub ?_ (pruned_sub _)
    rw [h1] at h
    refine h.set (.inr (.inl rfl)) ?_ ?_ ?_
    · rw [← h7]; exact lastQ_nodup _ h.qn
    · intro y hy
      rw [← h7]; exact mem_lastQ hy
    · exact ⟨fun _ => rfl, fun _ => by simp⟩
  · unfold liKeys
    simp only
    rw [hotK_pruned, h1, hotK_append, hotK_append, hotK_cons, hotK_cons, if_pos h3, if_neg (by simp), hotK_nil h4, List.nil_append, List.append_nil, List.append_nil, List.append_assoc]
    exact List.perm_append_comm.append_left _
  · show many 0 (pruned _) ≤ _
    refine Nat.le_trans (many_sub (pruned_sub _) 0) ?_
    rw [h1, many_append, many_append, many_cons, many_cons, if_neg (by simp), if_neg (by omega)]
    exact Nat.le_refl _
theorem cooled_ok : ∀ (m : Nat) (s : LS), 1 ≤ s.C → LiB s.S s.Q → LiB (cooled m s).S (cooled m s).Q ∧ (liKeys (cooled m s)).Perm (liKeys s) ∧ many 0 (cooled m s).S ≤ many 0 s.S
  | 0, s, h, hb => ⟨hb, List.Perm.refl _, Nat.le_refl _⟩
  | m + 1, s, h, hb => by
    unfold cooled
    split
    · rename_i hc
      have hr := (roomOf_le h).1
      obtain ⟨a1, a2, a3⟩ := coolS_ok hb (by omega)
      obtain ⟨b1, b2, b3⟩ := cooled_ok m (coolS s) h a1
      exact ⟨b1, b2.trans a2, Nat.le_trans b3 a3⟩
    · exact ⟨hb, List.Perm.refl _, Nat.le_refl _⟩
theorem coolL_ok {s : LS} (h : 1 ≤ s.C) (hb : LiB s.S s.Q) : LiB (coolL s).S (coolL s).Q ∧ (liKeys (coolL s)).Perm (liKeys s) ∧ many 0 (coolL s).S ≤ many 0 s.S := cooled_ok _ s h hb
theorem shrS_ok {C k : Int} {S : List (Int × Int)} {q : List Int} (h : LiB S (k :: q)) : LiB (shrS ⟨C, S, k :: q⟩).S q ∧ hotK (shrS ⟨C, S, k :: q⟩).S = hotK S := by
  have hn := List.nodup_cons.1 h.qn
  have ho : ∀ y, y ≠ k → (y ∈ q ↔ y ∈ k :: q) := fun y hy => ⟨fun h => List.mem_cons_of_mem _ h, fun h => (List.mem_cons.1 h).resolve_left hy⟩
  show LiB (if idxK S k ≥ 0 then setKd S (idxK S k).toNat 0 else S) q ∧ hotK (if idxK S k ≥ 0 then setKd S (idxK S k).toNat 0 else S) = _
  by_cases hi : idxK S k ≥ 0
  · rw [if_pos hi]
    obtain ⟨A, x, B, h1, h2, h3, h4⟩ := idxK_hit hi
    have hx : x.2 = 1 := (h.cq x (by rw [h1]; simp)).1 (by rw [h3]; simp)
    rw [h2, show ((A.length : Nat) : Int).toNat = A.length from rfl]
    subst h1
    rw [setKd_at]
    refine ⟨h.set (.inl rfl) hn.2 (by rw [h3]; exact ho) (by rw [h3]; exact ⟨fun e => absurd e hn.1, fun e => by omega⟩), ?_⟩
    rw [hotK_append, hotK_append, hotK_cons, hotK_cons, if_neg (by simp), if_neg (by omega)]
  · rw [if_neg hi]
    have hm := idxK_miss.1 (show idxK S k < 0 by omega)
    exact ⟨⟨h.sn, hn.2, h.kd, fun x hx => (ho _ (hm x hx)).trans (h.cq x hx)⟩, rfl⟩
theorem shrunk_ok {z : Int} : ∀ (m : Nat) (s : LS) (out : List Int), LiB s.S s.Q → (many 2 s.S : Int) ≤ z → s.Q.length ≤ m → LiB (shrunk z m s out).1.S (shrunk z m s out).1.Q ∧ hotK (shrunk z m s out).1.S = hotK s.S ∧ ((shrunk z m s out).2 ++ liKeys (shrunk z m s out).1).Perm (out ++ liKeys s) ∧ ((shrunk z m s out).2.length : Int) = out.length + max ((many 2 s.S : Int) + s.Q.length - z) 0
  | 0, s, out, h, hz, hq => ⟨h, rfl, List.Perm.refl _, by show (out.length : Int) = _; omega⟩
  | m + 1, s, out, h, hz, hq => by
    unfold shrunk
    split
    · rename_i hc
      obtain ⟨C, S, Q⟩ := s
      simp only at h hz hq hc
      cases Q with
      | nil => simp at hc; omega
      | cons k q =>
        obtain ⟨a1, a2⟩ := shrS_ok (C := C) h
        have hm2 : many 2 (shrS ⟨C, S, k :: q⟩).S = many 2 S := by rw [← hotK_len, a2, hotK_len]
        rw [List.length_cons] at hq hc
        obtain ⟨b1, b2, b3, b4⟩ := shrunk_ok m (shrS ⟨C, S, k :: q⟩) (out ++ [k]) a1 (by rw [hm2]; exact hz) (by show q.length ≤ m; omega)
        refine ⟨b1, b2.trans a2, b3.trans ?_, b4.trans ?_⟩
        · unfold liKeys
          rw [a2]
          show ((out ++ [k]) ++ (hotK S ++ q)).Perm (out ++ (hotK S ++ k :: q))
          rw [List.append_assoc]
          refine List.Perm.append_left _ ?_
          exact (List.perm_middle (l₁ := hotK S)).symm
        · rw [hm2, List.length_append, List.length_singleton]
          show ((out.length + 1 : Nat) : Int) + max ((many 2 S : Int) + q.length - z) 0 = _
          simp only [List.length_cons]
          omega
    · exact ⟨h, rfl, List.Perm.refl _, by show (out.length : Int) = _; omega⟩
theorem shrinkL_ok {z : Int} {s : LS} (h : LiB s.S s.Q) (hz : (many 2 s.S : Int) ≤ z) : LiB (shrinkL z s).1.S (shrinkL z s).1.Q ∧ hotK (shrinkL z s).1.S = hotK s.S ∧ ((shrinkL z s).2 ++ liKeys (shrinkL z s).1).Perm (liKeys s) ∧ ((shrinkL z s).2.length : Int) = max ((many 2 s.S : Int) + s.Q.length - z) 0 := by
  obtain ⟨a, b, c, d⟩ := shrunk_ok (z := z) s.Q.length s [] h hz (Nat.le_refl _)
  exact ⟨a, b, c, by unfold shrinkL; simpa using d⟩
theorem hotEnd_cut {A B : List (Int × Int)} {x : Int × Int} (hx : x.2 ≠ 2) (h : HotEnd (A ++ x :: B)) : HotEnd (A ++ B) := by
  cases hB : B with
  | nil =>
    exfalso
    rw [hB] at h
    exact hx (h x (by simp))
  | cons y C =>
    intro z hz
    refine h z ?_
    rw [← hB] at hz
    rw [List.getLast?_append] at hz ⊢
    rw [List.getLast?_cons, hB] 
    rw [hB] at hz
    rw [List.getLast?_cons] at hz ⊢
    simpa using hz
theorem forgot_ok : ∀ (m : Nat) (s : LS), 0 ≤ s.C → LiB s.S s.Q → many 0 s.S ≤ m → HotEnd s.S → LiB (forgot m s).S (forgot m s).Q ∧ hotK (forgot m s).S = hotK s.S ∧ (many 0 (forgot m s).S : Int) ≤ s.C ∧ HotEnd (forgot m s).S
  | 0, s, c, h, hm, he => ⟨h, rfl, by show (many 0 s.S : Int) ≤ _; omega, he⟩
  | m + 1, s, c, h, hm, he => by
    unfold forgot
    split
    · rename_i hc
      obtain ⟨n1, A, x, B, d1, d2, d3⟩ := take_last (k := 0) (S := s.S) (by omega)
      have hx : x.2 ≠ 2 := by omega
      have hsub : (takeP s.S ((upTo 0 s.S : Int) - 1)).Sublist s.S := by
        rw [d2]
        conv => rhs; rw [d1]
        exact (List.sublist_cons_self x B).append_left A
      have hh : hotK (takeP s.S ((upTo 0 s.S : Int) - 1)) = hotK s.S := by
        rw [d2]
        conv => rhs; rw [d1]
        rw [hotK_append, hotK_append, hotK_cons, if_neg hx, List.nil_append]
      have he2 : HotEnd (takeP s.S ((upTo 0 s.S : Int) - 1)) := by
        rw [d2]
        rw [d1] at he
        exact hotEnd_cut hx he
      obtain ⟨b1, b2, b3, b4⟩ := forgot_ok m ⟨s.C, takeP s.S ((upTo 0 s.S : Int) - 1), s.Q⟩ c (h.sub hsub) (by show many 0 (takeP _ _) ≤ m; omega) he2
      exact ⟨b1, b2.trans hh, b3, b4⟩
    · exact ⟨h, rfl, by omega, he⟩
theorem forgetL_ok {s : LS} (c : 0 ≤ s.C) (h : LiB s.S s.Q) (he : HotEnd s.S) : LiB (forgetL s).S (forgetL s).Q ∧ hotK (forgetL s).S = hotK s.S ∧ (many 0 (forgetL s).S : Int) ≤ s.C ∧ HotEnd (forgetL s).S ∧ (forgetL s).C = s.C ∧ (forgetL s).Q = s.Q := by
  obtain ⟨a, b, d, e⟩ := forgot_ok (many 0 s.S) s c h (Nat.le_refl _) he
  obtain ⟨f1, f2, f3⟩ := forgot_facts (many 0 s.S) s
  exact ⟨a, b, d, e, f1, f3⟩
end Go.Al
