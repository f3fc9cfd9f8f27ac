/- Low inter-reference recency, plainly: the acts keep the bounds; what they evict. Conditions: none. -/
import Derived.Test.YthglbfgmohgfdaaKp5
import Derived.Test.YthglbfgmohgfdaaSq11
set_option linter.unusedVariables false
set_option linter.unusedSimpArgs false
namespace Go.Al
theorem without_perm {k : Int} : ∀ {l : List Int}, l.Nodup → k ∈ l → (k :: without l k).Perm l
  | [], _, h => by cases h
  | a :: l, hn, h => by
    rw [List.nodup_cons] at hn
    by_cases e : a = k
    · subst e
      have : without (a :: l) a = l := by
        have h2 := without_same hn.1
        unfold without at h2 ⊢
        rw [List.filter_cons_of_neg (by simp)]; exact h2
      rw [this]
    · have hl : k ∈ l := (List.mem_cons.1 h).resolve_left (fun e2 => e e2.symm)
      have : without (a :: l) k = a :: without l k := by
        unfold without
        rw [List.filter_cons_of_pos (by simpa using e)]
      rw [this]
      exact (List.Perm.swap a k _).trans ((without_perm hn.2 hl).cons a)
theorem len_sub : ∀ {l m : List Int}, l.Nodup → (∀ x ∈ l, x ∈ m) → l.length ≤ m.length
  | [], m, _, _ => Nat.zero_le _
  | a :: l, m, hn, hs => by
    rw [List.nodup_cons] at hn
    have ha := hs a List.mem_cons_self
    have := len_sub (l := l) (m := m.erase a) hn.2 fun x hx => (List.mem_erase_of_ne (fun e => hn.1 (by rw [← e]; exact hx))).2 (hs x (List.mem_cons_of_mem _ hx))
    rw [List.length_erase_of_mem ha] at this
    have h0 : 0 < m.length := List.length_pos_iff.2 (List.ne_nil_of_mem ha)
    rw [List.length_cons]; omega
/-- A state that comes up. -/
structure LiOk (s : LS) : Prop where
  c0 : 1 ≤ s.C
  c1 : s.C ≤ 14
  b : LiB s.S s.Q
  hr : (many 2 s.S : Int) ≤ roomOf s.C
  hc : (many 2 s.S : Int) + s.Q.length ≤ s.C
  hg : (many 0 s.S : Int) ≤ s.C
  he : HotEnd s.S
theorem LiB.len {S : List (Int × Int)} {Q : List Int} (h : LiB S Q) : S.length ≤ many 0 S + many 2 S + Q.length := by
  have h1 : S.length ≤ many 0 S + many 2 S + many 1 S := by
    have hk := h.kd
    clear h
    induction S with
    | nil => exact Nat.zero_le _
    | cons x S ih =>
      have := ih fun y hy => hk y (List.mem_cons_of_mem _ hy)
      rw [many_cons, many_cons, many_cons, List.length_cons]
      rcases hk x List.mem_cons_self with e | e | e <;> rw [e] <;> simp <;> omega
  have h2 : many 1 S ≤ Q.length := by
    have hm : many 1 S = ((S.filter fun x => decide (x.2 = 1)).map Prod.fst).length := by rw [List.length_map]; rfl
    rw [hm]
    refine len_sub (h.sn.sublist (List.filter_sublist.map _)) fun x hx => ?_
    obtain ⟨y, hy, rfl⟩ := List.mem_map.1 hx
    rw [List.mem_filter] at hy
    exact (h.cq y hy.1).2 (by simpa using hy.2)
  omega
theorem LiOk.bounds {s : LS} (h : LiOk s) : s.S.length ≤ 28 ∧ s.Q.length ≤ 14 := by
  have := h.b.len
  have := h.c1
  have := h.hc
  have := h.hg
  omega
theorem LiOk.keys_len {s : LS} (h : LiOk s) : ((liKeys s).length : Int) ≤ s.C := by
  rw [liKeys_len]
  have := h.hc
  omega
theorem LiOk.keys {s : LS} (h : LiOk s) : (liKeys s).Nodup := h.b.keys
/-- Put together. -/
theorem LiOk.of {s t : LS} (h : LiOk s) (hC : t.C = s.C) (hb : LiB t.S t.Q) (hr : (many 2 t.S : Int) ≤ roomOf s.C) (hk : ((liKeys t).length : Int) ≤ s.C) (hg : (many 0 t.S : Int) ≤ s.C) (he : HotEnd t.S) : LiOk t :=
  ⟨by rw [hC]; exact h.c0, by rw [hC]; exact h.c1, hb, by rw [hC]; exact hr, by rw [hC]; rw [liKeys_len] at hk; omega, by rw [hC]; exact hg, he⟩
theorem liKeys_prune (s : LS) : liKeys (pruneL s) = liKeys s := by unfold liKeys pruneL; rw [hotK_pruned]
theorem many_of_hot {A B : List (Int × Int)} (h : hotK A = hotK B) : many 2 A = many 2 B := by rw [← hotK_len, h, hotK_len]
theorem hotAt_mem {s : LS} {k : Int} (h : hotAt s k) : (k, 2) ∈ s.S := by
  obtain ⟨h1, h2⟩ := h
  obtain ⟨A, x, B, d1, d2, d3, d4⟩ := idxK_hit h1
  rw [d2, show ((A.length : Nat) : Int).toNat = A.length from rfl, List.getD_eq_getElem?_getD, d1, List.getElem?_append_right (Nat.le_refl _), Nat.sub_self] at h2
  have h2 : x.2 = 2 := h2
  have : x = (k, 2) := by rw [← d3, ← h2]
  rw [d1, ← this]
  simp
theorem LiOk.touch {s : LS} (h : LiOk s) (k : Int) : LiOk (liTouch s k) ∧ (liKeys (liTouch s k)).Perm (liKeys s) := by
  have hb := h.b
  have hcur := h.keys_len
  unfold liTouch
  by_cases h1 : hotAt s k
  · rw [if_pos h1]
    have hm := hotAt_mem h1
    have hmk := mem_hotK.2 hm
    have hT : hotK ((k, 2) :: remK s.S k) = k :: without (hotK s.S) k := by rw [hotK_cons, if_pos rfl, hotK_remK hb.sn]; rfl
    have hperm : (k :: without (hotK s.S) k).Perm (hotK s.S) := without_perm hb.hot_nodup hmk
    have hB : LiB ((k, 2) :: remK s.S k) s.Q := hb.put k (.inr rfl) hb.qn (fun _ _ => Iff.rfl) ⟨fun hq => absurd hq (hb.hot_out hmk), fun e => by omega⟩
    have hk : (liKeys (pruneL (stkL s k 2))).Perm (liKeys s) := by
      rw [liKeys_prune]
      show (hotK ((k, 2) :: remK s.S k) ++ s.Q).Perm _
      rw [hT]
      exact hperm.append_right _
    have hm2 : many 2 (pruned ((k, 2) :: remK s.S k)) = many 2 s.S := by rw [many_pruned, ← hotK_len, hT, hperm.length_eq, hotK_len]
    refine ⟨h.of rfl (hB.sub (pruned_sub _)) (by show (many 2 (pruned ((k, 2) :: remK s.S k)) : Int) ≤ _; rw [hm2]; exact h.hr) (by rw [hk.length_eq]; exact hcur) ?_ (hotEnd_pruned _), hk⟩
    have g1 := many_sub (pruned_sub ((k, 2) :: remK s.S k)) 0
    have g2 := many_sub (remK_sub s.S k) 0
    rw [many_cons, if_neg (by simp)] at g1
    have := h.hg
    show (many 0 (pruned ((k, 2) :: remK s.S k)) : Int) ≤ _
    omega
  · rw [if_neg h1]
    by_cases h2 : k ∈ s.Q
    · rw [if_neg (fun h => h h2)]
      have hkn : k ∉ hotK s.S := fun hk => hb.hot_out hk h2
      have hqp : (k :: without s.Q k).Perm s.Q := without_perm hb.qn h2
      by_cases h3 : idxK s.S k ≥ 0
      · rw [if_pos h3]
        have hB : LiB ((k, 2) :: remK s.S k) (without s.Q k) := hb.put k (.inr rfl) (without_nodup k hb.qn) (fun x hx => by rw [mem_without]; exact ⟨fun h => h.1, fun h => ⟨h, hx⟩⟩) ⟨fun hq => absurd rfl (mem_without.1 hq).2, fun e => by omega⟩
        obtain ⟨a1, a2, a3⟩ := coolL_ok (s := ⟨s.C, (k, 2) :: remK s.S k, without s.Q k⟩) h.c0 hB
        obtain ⟨f1, f2, f3, f4⟩ := coolL_facts ⟨s.C, (k, 2) :: remK s.S k, without s.Q k⟩ h.c0
        have hk0 : (liKeys ⟨s.C, (k, 2) :: remK s.S k, without s.Q k⟩).Perm (liKeys s) := by
          unfold liKeys
          rw [hotK_cons, if_pos rfl, hotK_remK hb.sn, without_same hkn]
          exact (List.perm_middle (a := k) (l₁ := hotK s.S) (l₂ := without s.Q k)).symm.trans (hqp.append_left _)
        simp only at a3 f1 f4
        generalize coolL ⟨s.C, (k, 2) :: remK s.S k, without s.Q k⟩ = t at *
        have hk : (liKeys (pruneL t)).Perm (liKeys s) := by rw [liKeys_prune]; exact a2.trans hk0
        refine ⟨h.of f1 (a1.sub (pruned_sub _)) (by show (many 2 (pruned t.S) : Int) ≤ _; rw [many_pruned]; exact f4) (by rw [hk.length_eq]; exact hcur) ?_ (hotEnd_pruned _), hk⟩
        have g1 := many_sub (pruned_sub t.S) 0
        have g2 := many_sub (remK_sub s.S k) 0
        rw [many_cons, if_neg (by simp)] at a3
        have := h.hg
        show (many 0 (pruned t.S) : Int) ≤ _
        omega
      · rw [if_neg h3]
        have hB : LiB ((k, 1) :: remK s.S k) (lastQ s.Q k) := hb.put k (.inl rfl) (lastQ_nodup k hb.qn) (fun x hx => mem_lastQ hx) ⟨fun _ => rfl, fun _ => self_lastQ _ _⟩
        have hT : hotK ((k, 1) :: remK s.S k) = hotK s.S := by rw [hotK_cons, if_neg (by simp), hotK_remK hb.sn, without_same hkn]; rfl
        have hk : (liKeys (pruneL (behindL (stkL s k 1) k))).Perm (liKeys s) := by
          rw [liKeys_prune]
          show (hotK ((k, 1) :: remK s.S k) ++ lastQ s.Q k).Perm (hotK s.S ++ s.Q)
          rw [hT]
          exact ((List.perm_append_singleton k (without s.Q k)).trans hqp).append_left _
        have hm2 : many 2 (pruned ((k, 1) :: remK s.S k)) = many 2 s.S := by rw [many_pruned]; exact many_of_hot hT
        refine ⟨h.of rfl (hB.sub (pruned_sub _)) (by show (many 2 (pruned ((k, 1) :: remK s.S k)) : Int) ≤ _; rw [hm2]; exact h.hr) (by rw [hk.length_eq]; exact hcur) ?_ (hotEnd_pruned _), hk⟩
        have g1 := many_sub (pruned_sub ((k, 1) :: remK s.S k)) 0
        have g2 := many_sub (remK_sub s.S k) 0
        rw [many_cons, if_neg (by simp)] at g1
        have := h.hg
        show (many 0 (pruned ((k, 1) :: remK s.S k)) : Int) ≤ _
        omega
    · rw [if_pos h2]
      exact ⟨h, List.Perm.refl _⟩
end Go.Al
