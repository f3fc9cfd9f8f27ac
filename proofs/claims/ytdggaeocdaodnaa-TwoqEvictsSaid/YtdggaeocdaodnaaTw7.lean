/- Two queues: what stays apart, and what is evicted: of rows of keys alone. Conditions: none. -/
import Derived.Test.YtdggaeocdaodnaaTw5
import Derived.Test.YtdggaeocdaodnaaEv1
set_option linter.unusedVariables false
set_option linter.unusedSimpArgs false
namespace Go.Al
theorem last_split {l : List Int} (h : l ≠ []) : l = l.take (l.length - 1) ++ [lastD l] := by
  have h0 := List.length_pos_iff.2 h
  have h1 := lastD_get h
  obtain ⟨h2, h3⟩ := List.getElem?_eq_some_iff.1 h1
  have := List.take_add_one (l := l) (i := l.length - 1)
  rw [h1, Nat.sub_add_cancel h0, List.take_length] at this
  simpa using this
theorem last_mem {l : List Int} (h : l ≠ []) (x : Int) : x ∈ l ↔ x = lastD l ∨ x ∈ l.take (l.length - 1) := by
  conv => lhs; rw [last_split h]
  simp [or_comm]
theorem last_apart {l : List Int} (h : l ≠ []) (hn : l.Nodup) : (l.take (l.length - 1)).Nodup ∧ lastD l ∉ l.take (l.length - 1) := by
  rw [last_split h, List.nodup_append] at hn
  refine ⟨hn.1, fun hm => hn.2.2 _ hm _ (by simp) rfl⟩
/-- No key is in two rows, or twice in one. -/
structure Sep (s : TQ) : Prop where
  nI : s.I.Nodup
  nO : s.O.Nodup
  nM : s.M.Nodup
  dIO : ∀ x ∈ s.I, x ∉ s.O
  dIM : ∀ x ∈ s.I, x ∉ s.M
  dOM : ∀ x ∈ s.O, x ∉ s.M
theorem mem_cutTo {l : List Int} {z x : Int} (h : x ∈ cutTo l z) : x ∈ l := (cut_mem l z x).2 (.inl h)
theorem reclaim_sep {C : Int} {s : TQ} (h : Sep s) (h0 : 0 < s.I.length + s.M.length) :
    Sep (tqReclaim C s).1 ∧ ((tqReclaim C s).2 ∈ s.I ∨ (tqReclaim C s).2 ∈ s.M) ∧ (tqReclaim C s).2 ∉ (tqReclaim C s).1.I ∧ (tqReclaim C s).2 ∉ (tqReclaim C s).1.M ∧
      (∀ x, x ∈ s.I ∨ x ∈ s.M → x = (tqReclaim C s).2 ∨ x ∈ (tqReclaim C s).1.I ∨ x ∈ (tqReclaim C s).1.M) ∧ (∀ x ∈ (tqReclaim C s).1.I, x ∈ s.I) ∧ (∀ x ∈ (tqReclaim C s).1.M, x ∈ s.M) ∧ (∀ x ∈ (tqReclaim C s).1.O, x ∈ s.O ∨ x = (tqReclaim C s).2) := by
  obtain ⟨I, O, M⟩ := s
  obtain ⟨nI, nO, nM, dIO, dIM, dOM⟩ := h
  simp only at nI nO nM dIO dIM dOM h0
  unfold tqReclaim
  split
  · rename_i hc
    simp only at hc
    have hI : I ≠ [] := by
      rintro rfl
      rcases hc with hc | hc
      · have := kin_le C; simp at hc; omega
      · subst hc; simp at h0
    obtain ⟨a1, a2⟩ := last_apart hI nI
    have hm := last_mem hI
    have hl : lastD I ∈ I := (hm _).2 (.inl rfl)
    have hO : ∀ x ∈ tqPut C O (lastD I), x ∈ O ∨ x = lastD I := fun x hx => by
      rcases mem_front.1 (mem_cutTo hx) with h | h
      · exact .inr h
      · exact .inl h
    refine ⟨⟨a1, cutTo_nodup _ (front_nodup _ nO), nM, ?_, fun x hx => dIM x (List.mem_of_mem_take hx), ?_⟩, .inl hl, a2, dIM _ hl, ?_, fun x hx => List.mem_of_mem_take hx, fun x hx => hx, hO⟩
    · intro x hx hxo
      rcases hO x hxo with h | rfl
      · exact dIO x (List.mem_of_mem_take hx) h
      · exact a2 hx
    · intro x hx
      rcases hO x hx with h | rfl
      · exact dOM x h
      · exact dIM _ hl
    · intro x hx
      rcases hx with hx | hx
      · rcases (hm x).1 hx with h | h
        · exact .inl h
        · exact .inr (.inl h)
      · exact .inr (.inr hx)
  · rename_i hc
    simp only at hc
    have hM : M ≠ [] := fun h => hc (.inr h)
    obtain ⟨a1, a2⟩ := last_apart hM nM
    have hm := last_mem hM
    have hl : lastD M ∈ M := (hm _).2 (.inl rfl)
    refine ⟨⟨nI, nO, a1, dIO, fun x hx hxm => dIM x hx (List.mem_of_mem_take hxm), fun x hx hxm => dOM x hx (List.mem_of_mem_take hxm)⟩, .inr hl, fun h => dIM _ h hl, a2, ?_, fun x hx => hx, fun x hx => List.mem_of_mem_take hx, fun x hx => .inl hx⟩
    intro x hx
    rcases hx with hx | hx
    · exact .inr (.inl hx)
    · rcases (hm x).1 hx with h | h
      · exact .inl h
      · exact .inr (.inr h)
/-- What reclaiming comes to: the keys e are evicted. -/
structure Went (s r : TQ) (e : List Int) : Prop where
  sep : Sep r
  ap : e.Nodup
  gone : ∀ x ∈ e, (x ∈ s.I ∨ x ∈ s.M) ∧ x ∉ r.I ∧ x ∉ r.M
  stay : ∀ x, x ∈ s.I ∨ x ∈ s.M → x ∈ e ∨ x ∈ r.I ∨ x ∈ r.M
  inI : ∀ x ∈ r.I, x ∈ s.I
  inM : ∀ x ∈ r.M, x ∈ s.M
  inO : ∀ x ∈ r.O, x ∈ s.O ∨ x ∈ e
theorem shrink_went {C z : Int} (z0 : 0 ≤ z) : ∀ (f : Nat) (s : TQ) (g : List Int), s.I.length + s.M.length = f → s.O.length ≤ 600000 → 1 ≤ C → C ≤ 1048576 → Sep s → ∃ e, (tqShrink C z f s g).2 = g ++ e ∧ Went s (tqShrink C z f s g).1 e
  | 0, s, g, h, ho, c0, c1, hs => ⟨[], by simp [tqShrink], ⟨hs, List.nodup_nil, by simp, fun x hx => .inr hx, fun x hx => hx, fun x hx => hx, fun x hx => .inl hx⟩⟩
  | f + 1, s, g, h, ho, c0, c1, hs => by
    unfold tqShrink
    by_cases hc : (s.I.length + s.M.length : Int) ≤ z
    · rw [if_pos hc]
      exact ⟨[], by simp, ⟨hs, List.nodup_nil, by simp, fun x hx => .inr hx, fun x hx => hx, fun x hx => hx, fun x hx => .inl hx⟩⟩
    · rw [if_neg hc]
      obtain ⟨l1, l2⟩ := tqReclaim_len (s := s) c0 c1 (by omega) ho
      obtain ⟨r1, r2, r3, r4, r5, r6, r7, r8⟩ := reclaim_sep (C := C) hs (by omega)
      obtain ⟨e, he, w⟩ := shrink_went z0 f (tqReclaim C s).1 (g ++ [(tqReclaim C s).2]) (by omega) l2 c0 c1 r1
      generalize tqReclaim C s = rc at *
      obtain ⟨q, k⟩ := rc
      simp only at r1 r2 r3 r4 r5 r6 r7 r8 he w ⊢
      refine ⟨k :: e, by rw [he]; simp, ⟨w.sep, ?_, ?_, ?_, fun x hx => r6 x (w.inI x hx), fun x hx => r7 x (w.inM x hx), ?_⟩⟩
      · rw [List.nodup_cons]
        refine ⟨fun hk => ?_, w.ap⟩
        rcases (w.gone k hk).1 with h | h
        · exact r3 h
        · exact r4 h
      · intro x hx
        rcases List.mem_cons.1 hx with rfl | hx
        · exact ⟨r2, fun h => r3 (w.inI _ h), fun h => r4 (w.inM _ h)⟩
        · obtain ⟨g1, g2, g3⟩ := w.gone x hx
          refine ⟨?_, g2, g3⟩
          rcases g1 with g1 | g1
          · exact .inl (r6 x g1)
          · exact .inr (r7 x g1)
      · intro x hx
        rcases r5 x hx with rfl | h
        · exact .inl (by simp)
        · rcases w.stay x h with h | h
          · exact .inl (List.mem_cons_of_mem _ h)
          · exact .inr h
      · intro x hx
        rcases w.inO x hx with h | h
        · rcases r8 x h with h | rfl
          · exact .inl h
          · exact .inr (by simp)
        · exact .inr (List.mem_cons_of_mem _ h)
end Go.Al
