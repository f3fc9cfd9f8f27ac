/- Two queues: bounds, and what acts evict: of rows of keys alone. Conditions: none. -/
import Derived.Test.YtdggaeocdaodnaaTw7
set_option linter.unusedVariables false
set_option linter.unusedSimpArgs false
namespace Go.Al
theorem shrink_out {C z : Int} (c0 : 1 ≤ C) (c1 : C ≤ 1048576) : ∀ (f : Nat) (s : TQ) (g : List Int), (s.O.length : Int) ≤ C.tdiv 2 → ((tqShrink C z f s g).1.O.length : Int) ≤ C.tdiv 2
  | 0, s, g, h => h
  | f + 1, s, g, h => by
    unfold tqShrink
    split
    · exact h
    · refine shrink_out c0 c1 f _ _ ?_
      obtain ⟨_, _, h0, h1, _⟩ := div_facts c0 c1
      unfold tqReclaim
      split
      · show ((tqPut C s.O (lastD s.I)).length : Int) ≤ _
        unfold tqPut
        have := cutTo_len (lastD s.I :: without s.O (lastD s.I)) (C.tdiv 2) h0
        omega
      · exact h
structure TqOk (C : Int) (s : TQ) : Prop extends TqShort C s where
  sep : Sep s
  half : (s.O.length : Int) ≤ C.tdiv 2
theorem Sep.drop {s : TQ} (h : Sep s) (k : Int) : Sep ⟨without s.I k, without s.O k, without s.M k⟩ :=
  ⟨without_nodup k h.nI, without_nodup k h.nO, without_nodup k h.nM, fun x hx hc => h.dIO x (mem_without.1 hx).1 (mem_without.1 hc).1, fun x hx hc => h.dIM x (mem_without.1 hx).1 (mem_without.1 hc).1, fun x hx hc => h.dOM x (mem_without.1 hx).1 (mem_without.1 hc).1⟩
theorem Sep.less {s : TQ} (h : Sep s) {O : List Int} (hO : ∀ x ∈ O, x ∈ s.O) (hn : O.Nodup) : Sep ⟨s.I, O, s.M⟩ :=
  ⟨h.nI, hn, h.nM, fun x hx hc => h.dIO x hx (hO x hc), h.dIM, fun x hx => h.dOM x (hO x hx)⟩
/-- A key to the front of Main. -/
theorem Sep.main {s : TQ} (h : Sep s) {k : Int} (hI : k ∉ s.I) (hO : k ∉ s.O) : Sep ⟨s.I, s.O, k :: without s.M k⟩ :=
  ⟨h.nI, h.nO, front_nodup k h.nM, h.dIO, fun x hx hc => by rcases mem_front.1 hc with rfl | hc; exact hI hx; exact h.dIM x hx hc, fun x hx hc => by rcases mem_front.1 hc with rfl | hc; exact hO hx; exact h.dOM x hx hc⟩
/-- A key to the front of In. -/
theorem Sep.inn {s : TQ} (h : Sep s) {k : Int} (hO : k ∉ s.O) (hM : k ∉ s.M) : Sep ⟨k :: without s.I k, s.O, s.M⟩ :=
  ⟨front_nodup k h.nI, h.nO, h.nM, fun x hx hc => by rcases mem_front.1 hx with rfl | hx; exact hO hc; exact h.dIO x hx hc, fun x hx hc => by rcases mem_front.1 hx with rfl | hx; exact hM hc; exact h.dIM x hx hc, h.dOM⟩
theorem not_app {k : Int} {a b : List Int} (h : k ∉ a ++ b) : k ∉ a ∧ k ∉ b := ⟨fun x => h (List.mem_append_left _ x), fun x => h (List.mem_append_right _ x)⟩
theorem TqOk.act {C : Int} {s : TQ} (h : TqOk C s) {a : Deed} (ha : a.Fits) : TqOk (tqDo C s a).1 (tqDo C s a).2.1 ∧ EvOk (s.I ++ s.M) ((tqDo C s a).2.1.I ++ (tqDo C s a).2.1.M) (tqDo C s a).2.2 (kindOf a (decide (a.key ∈ s.I ++ s.M))) (decide (a.key ∈ s.I ++ s.M)) a.key (sizeOf' a) := by
  have hsh := (h.toTqShort.act ha).1
  have hs := sizeOf_le ha
  have hcs : capOf (sizeOf' a) = sizeOf' a := capOf_same (by omega) (by omega)
  have c0 := h.c0
  have c1 := h.c1
  have sp := h.sep
  have hh := h.half
  have ho := h.out
  obtain ⟨_, _, d0, d1, _⟩ := div_facts c0 (by omega : C ≤ 1048576)
  rcases kindOf_cases a (decide (a.key ∈ s.I ++ s.M)) with e | e | e | e
  · have : tqDo C s a = (C, tqTouch s a.key, []) := by unfold tqDo; rw [if_pos e]
    rw [this] at hsh ⊢
    rw [e]
    by_cases hk : a.key ∈ s.M
    · have ht : tqTouch s a.key = ⟨s.I, s.O, a.key :: without s.M a.key⟩ := if_pos hk
      rw [ht] at hsh ⊢
      have hl := front_len sp.nM hk
      refine ⟨⟨hsh, sp.main (fun hc => sp.dIM _ hc hk) (fun hc => sp.dOM _ hc hk), hh⟩, ⟨by simp, ?_, rfl, ?_, by simp⟩⟩
      · intro x hx
        refine .inr (.inl ?_)
        rcases List.mem_append.1 hx with hx | hx
        · exact List.mem_append_left _ hx
        · exact List.mem_append_right _ (mem_front.2 (.inr hx))
      · simp only [List.length_append, hl]; simp
    · have ht : tqTouch s a.key = s := if_neg hk
      rw [ht] at hsh ⊢
      exact ⟨h, ⟨by simp, fun x hx => .inr (.inl hx), rfl, by simp, by simp⟩⟩
  · have : tqDo C s a = (C, (tqAdmit C s a.key).1, (tqAdmit C s a.key).2) := by unfold tqDo; rw [if_neg (by omega), if_pos e]
    rw [this] at hsh ⊢
    rw [e]
    by_cases hk : a.key ∈ s.I ++ s.M
    · have ht : tqAdmit C s a.key = (s, []) := if_pos hk
      rw [ht] at hsh ⊢
      exact ⟨h, ⟨by simp, fun x hx => .inr (.inl hx), rfl, by simp [hk], by simp⟩⟩
    · have hwl := without_len s.O a.key
      have hs1 : Sep ⟨s.I, without s.O a.key, s.M⟩ := sp.less (fun x hx => (mem_without.1 hx).1) (without_nodup _ sp.nO)
      obtain ⟨l1, l2, l3⟩ := tqShrink_len (z := C - 1) c0 (by omega) (by omega) (s.I.length + s.M.length) ⟨s.I, without s.O a.key, s.M⟩ [] rfl (by show (without s.O a.key).length ≤ _; omega)
      obtain ⟨ev, he, w⟩ := shrink_went (C := C) (z := C - 1) (by omega) (s.I.length + s.M.length) ⟨s.I, without s.O a.key, s.M⟩ [] rfl (by show (without s.O a.key).length ≤ _; omega) c0 (by omega) hs1
      have hout := shrink_out (z := C - 1) c0 (by omega) (s.I.length + s.M.length) ⟨s.I, without s.O a.key, s.M⟩ [] (by show ((without s.O a.key).length : Int) ≤ _; omega)
      obtain ⟨hkI, hkM⟩ := not_app hk
      unfold tqAdmit at hsh ⊢
      rw [if_neg hk] at hsh ⊢
      generalize tqShrink C (C - 1) (s.I.length + s.M.length) ⟨s.I, without s.O a.key, s.M⟩ [] = R at *
      obtain ⟨⟨I2, O2, M2⟩, G⟩ := R
      simp only [List.nil_append, List.length_nil, Nat.add_zero] at l1 l2 l3 he w hout hsh ⊢
      subst he
      have hkI2 : a.key ∉ I2 := fun hc => hkI (w.inI _ hc)
      have hkM2 : a.key ∉ M2 := fun hc => hkM (w.inM _ hc)
      have hkO2 : a.key ∉ O2 := fun hc => by
        rcases w.inO _ hc with h1 | h1
        · exact (mem_without.1 h1).2 rfl
        · rcases (w.gone _ h1).1 with h2 | h2
          · exact hkI h2
          · exact hkM h2
      have ge1 : ∀ x ∈ G, x ∈ s.I ++ s.M ∧ x ∉ I2 ∧ x ∉ M2 ∧ x ≠ a.key := fun x hx => by
        obtain ⟨g1, g2, g3⟩ := w.gone x hx
        refine ⟨List.mem_append.2 g1, g2, g3, ?_⟩
        rintro rfl
        rcases g1 with g1 | g1
        · exact hkI g1
        · exact hkM g1
      by_cases hkO : a.key ∈ s.O
      · rw [if_pos hkO] at hsh ⊢
        refine ⟨⟨hsh, w.sep.main hkI2 hkO2, hout⟩, ⟨?_, ?_, apart_iff.2 w.ap, ?_, by simp⟩⟩
        · intro x hx
          obtain ⟨g1, g2, g3, g4⟩ := ge1 x hx
          exact ⟨g1, by simp [g2, g4, without_same hkM2, g3]⟩
        · intro x hx
          rcases w.stay x (List.mem_append.1 hx) with h1 | h1 | h1
          · exact .inl h1
          · exact .inr (.inl (List.mem_append_left _ h1))
          · exact .inr (.inl (List.mem_append_right _ (mem_front.2 (.inr h1))))
        · simp [hk, without_same hkM2]; omega
      · rw [if_neg hkO] at hsh ⊢
        refine ⟨⟨hsh, w.sep.inn hkO2 hkM2, hout⟩, ⟨?_, ?_, apart_iff.2 w.ap, ?_, by simp⟩⟩
        · intro x hx
          obtain ⟨g1, g2, g3, g4⟩ := ge1 x hx
          exact ⟨g1, by simp [g2, g4, without_same hkI2, g3]⟩
        · intro x hx
          rcases w.stay x (List.mem_append.1 hx) with h1 | h1 | h1
          · exact .inl h1
          · exact .inr (.inl (List.mem_append_left _ (mem_front.2 (.inr h1))))
          · exact .inr (.inl (List.mem_append_right _ h1))
        · simp [hk, without_same hkI2]; omega
  · have : tqDo C s a = (C, ⟨without s.I a.key, without s.O a.key, without s.M a.key⟩, []) := by unfold tqDo; rw [if_neg (by omega), if_neg (by omega), if_pos e]
    rw [this] at hsh ⊢
    rw [e]
    have hwl := without_len s.O a.key
    refine ⟨⟨hsh, sp.drop a.key, by show ((without s.O a.key).length : Int) ≤ C.tdiv 2; omega⟩, ⟨by simp, ?_, rfl, ?_, by simp⟩⟩
    · intro x hx
      by_cases hx2 : x = a.key
      · exact .inr (.inr ⟨rfl, hx2⟩)
      · refine .inr (.inl ?_)
        rcases List.mem_append.1 hx with hx | hx
        · exact List.mem_append_left _ (mem_without.2 ⟨hx, hx2⟩)
        · exact List.mem_append_right _ (mem_without.2 ⟨hx, hx2⟩)
    · by_cases h1 : a.key ∈ s.I
      · have h2 : a.key ∉ s.M := sp.dIM _ h1
        have l1 := without_mem_len sp.nI h1
        have l0 : 0 < s.I.length := List.length_pos_iff.2 (List.ne_nil_of_mem h1)
        simp [without_same h2, h1]; omega
      · by_cases h2 : a.key ∈ s.M
        · have l1 := without_mem_len sp.nM h2
          have l0 : 0 < s.M.length := List.length_pos_iff.2 (List.ne_nil_of_mem h2)
          simp [without_same h1, h2]; omega
        · simp [without_same h1, without_same h2, h1, h2]
  · have : tqDo C s a = (sizeOf' a, (tqResize s (sizeOf' a)).1, (tqResize s (sizeOf' a)).2) := by unfold tqDo; rw [if_neg (by omega), if_neg (by omega), if_neg (by omega), hcs]
    rw [this] at hsh ⊢
    rw [e]
    unfold tqResize at hsh ⊢
    rw [hcs] at hsh ⊢
    obtain ⟨l1, l2, l3⟩ := tqShrink_len (C := sizeOf' a) (z := sizeOf' a) hs.1 (by omega) (by omega) (s.I.length + s.M.length) s [] rfl ho
    obtain ⟨ev, he, w⟩ := shrink_went (C := sizeOf' a) (z := sizeOf' a) (by omega) (s.I.length + s.M.length) s [] rfl ho hs.1 (by omega) sp
    obtain ⟨_, _, d0', d1', _⟩ := div_facts hs.1 (by omega : sizeOf' a ≤ 1048576)
    generalize tqShrink (sizeOf' a) (sizeOf' a) (s.I.length + s.M.length) s [] = R at *
    obtain ⟨⟨I2, O2, M2⟩, G⟩ := R
    simp only [List.nil_append, List.length_nil, Nat.add_zero] at l1 l2 l3 he w hsh ⊢
    subst he
    refine ⟨⟨hsh, w.sep.less (fun x hx => mem_cutTo hx) (cutTo_nodup _ w.sep.nO), by show ((cutTo O2 _).length : Int) ≤ _; rw [cutTo_len _ _ d0']; omega⟩, ⟨?_, ?_, apart_iff.2 w.ap, ?_, fun _ => ?_⟩⟩
    · intro x hx
      obtain ⟨g1, g2, g3⟩ := w.gone x hx
      exact ⟨List.mem_append.2 g1, by simp [g2, g3]⟩
    · intro x hx
      rcases w.stay x (List.mem_append.1 hx) with h1 | h1 | h1
      · exact .inl h1
      · exact .inr (.inl (List.mem_append_left _ h1))
      · exact .inr (.inl (List.mem_append_right _ h1))
    · simp; omega
    · simp; omega
theorem tqRun_ok {c : Int} (h0 : 0 ≤ c) (h1 : c < 256) : ∀ (l : List Deed), (∀ a ∈ l, a.Fits) → TqOk (tqRun c l).1 (tqRun c l).2 := by
  obtain ⟨k1, k2, _⟩ := size12 h0 h1
  have gen : ∀ (l : List Deed) (s : Int × TQ), (∀ a ∈ l, a.Fits) → TqOk s.1 s.2 → TqOk (l.foldl tqStep s).1 (l.foldl tqStep s).2 := by
    intro l
    induction l with
    | nil => intro s _ h; exact h
    | cons a l ih =>
      intro s hf h
      exact ih (tqStep s a) (fun b hb => hf b (by simp [hb])) (h.act (hf a (by simp))).1
  intro l hf
  obtain ⟨_, _, d0, _, _⟩ := div_facts k1 (by omega : 1 + c.tmod 12 ≤ 1048576)
  exact gen l _ hf ⟨⟨k1, by show 1 + c.tmod 12 ≤ 14; omega, by show ((0 : Nat) : Int) ≤ 1 + c.tmod 12; omega, Nat.zero_le _⟩, ⟨List.nodup_nil, List.nodup_nil, List.nodup_nil, by simp, by simp, by simp⟩, by show ((0 : Nat) : Int) ≤ _; exact d0⟩
end Go.Al
