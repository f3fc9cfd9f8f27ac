/- A cache of any policy, plainly: its pairs are a map's that forgets. Conditions: none. -/
import Derived.Test.YtkoimgeckkodhaaMr4
set_option linter.unusedVariables false
set_option linter.unusedSimpArgs false
namespace Go.Al
section
variable {P : List (Int × Int)} {k j : Int}
theorem valK_rem (h : j ≠ k) : valK (remP P k) j = valK P j := by
  unfold valK remP
  rw [List.find?_filter]
  have e : (fun a : Int × Int => decide (decide (a.1 ≠ k) = true ∧ decide (a.1 = j) = true)) = fun a => decide (a.1 = j) := by
    funext a
    by_cases h2 : a.1 = j
    · have : a.1 ≠ k := by rw [h2]; exact h
      simp [h2, h]
    · simp [h2]
  rw [e]
theorem goA_eq (P : List (Int × Int)) {ks : List Int} (hn : ks.Nodup) : goA P ks = (P.filter (fun x => decide (x.1 ∉ ks)), ks.map fun k => (k, valK P k)) := by
  have gen : ∀ (ks : List Int) (P O : List (Int × Int)), ks.Nodup → ks.foldl goS (P, O) = (P.filter (fun x => decide (x.1 ∉ ks)), O ++ ks.map fun k => (k, valK P k)) := by
    intro ks
    induction ks with
    | nil => intro P O _; exact Prod.ext (List.filter_eq_self.2 (fun x hx => by simp)).symm (by simp)
    | cons k ks ih =>
      intro P O hn
      obtain ⟨h1, h2⟩ := List.nodup_cons.1 hn
      rw [List.foldl_cons]
      show ks.foldl goS (remP P k, O ++ [(k, valK P k)]) = _
      rw [ih _ _ h2]
      refine Prod.ext ?_ ?_
      · show (remP P k).filter _ = P.filter _
        unfold remP
        rw [List.filter_filter]
        apply List.filter_congr
        intro x hx
        by_cases e : x.1 = k <;> simp [e]
      · show (O ++ [(k, valK P k)]) ++ ks.map (fun j => (j, valK (remP P k) j)) = O ++ (k, valK P k) :: ks.map (fun j => (j, valK P j))
        rw [List.append_assoc, List.singleton_append]
        congr 2
        apply List.map_congr_left
        intro j hj
        rw [valK_rem (fun e => h1 (by rw [← e]; exact hj))]
  have := gen ks P [] hn
  rw [List.nil_append] at this
  exact this
theorem rest_nil (m : List (Int × Int)) : rest m [] = m := by
  unfold rest stay
  rw [List.filter_eq_self]
  intro x hx
  simp
theorem rest_goA {ks : List Int} (nd : (keys P).Nodup) (hn : ks.Nodup) (hs : ∀ x ∈ ks, x ∈ keys P) : rest P (goA P ks).2 = (goA P ks).1 := by
  rw [goA_eq P hn]
  unfold rest stay
  apply List.filter_congr
  intro x hx
  have : x ∈ (ks.map fun k => (k, valK P k)) ↔ x.1 ∈ ks := by
    constructor
    · intro h
      obtain ⟨k, hk, rfl⟩ := List.mem_map.1 h
      exact hk
    · intro h
      refine List.mem_map.2 ⟨x.1, h, ?_⟩
      rw [valK_mem nd (v := x.2) hx]
  show (!decide (x ∈ (ks.map fun k => (k, valK P k)))) = decide (x.1 ∉ ks)
  by_cases h : x.1 ∈ ks
  · simp only [this.2 h, h]; rfl
  · rw [decide_eq_false (fun e => h (this.1 e)), decide_eq_true h]; rfl
theorem goA_out {ks : List Int} (nd : (keys P).Nodup) (hn : ks.Nodup) (hs : ∀ x ∈ ks, x ∈ keys P) : outB P (goA P ks).2 = true := by
  rw [goA_eq P hn]
  refine decide_eq_true ⟨fun x hx => ?_, ?_⟩
  · obtain ⟨k, hk, rfl⟩ := List.mem_map.1 hx
    obtain ⟨v, hv⟩ := keys_mem (hs k hk)
    rw [valK_mem nd hv]; exact hv
  · show (List.map Prod.fst (ks.map fun k => (k, valK P k))).Nodup
    rw [List.map_map]
    have : (Prod.fst ∘ fun k : Int => (k, valK P k)) = id := rfl
    rw [this, List.map_id]
    exact hn
theorem keys_goA {ks : List Int} (hn : ks.Nodup) (x : Int) : x ∈ keys (goA P ks).1 ↔ x ∈ keys P ∧ x ∉ ks := by
  rw [goA_eq P hn]
  show x ∈ List.map Prod.fst (P.filter _) ↔ _
  simp only [List.mem_map, List.mem_filter, decide_eq_true_eq]
  constructor
  · rintro ⟨y, ⟨h1, h2⟩, rfl⟩
    exact ⟨⟨y, h1, rfl⟩, h2⟩
  · rintro ⟨⟨y, h1, rfl⟩, h2⟩
    exact ⟨y, ⟨h1, h2⟩, rfl⟩
theorem nodup_goA {ks : List Int} (nd : (keys P).Nodup) (hn : ks.Nodup) : (keys (goA P ks).1).Nodup := by
  rw [goA_eq P hn]
  exact nd.sublist (List.filter_sublist.map _)
theorem keys_remP (x : Int) : x ∈ keys (remP P k) ↔ x ∈ keys P ∧ x ≠ k := by
  unfold remP keys
  simp only [List.mem_map, List.mem_filter, decide_eq_true_eq]
  constructor
  · rintro ⟨y, ⟨h1, h2⟩, rfl⟩
    exact ⟨⟨y, h1, rfl⟩, h2⟩
  · rintro ⟨⟨y, h1, rfl⟩, h2⟩
    exact ⟨y, ⟨h1, h2⟩, rfl⟩
theorem nodup_remP (nd : (keys P).Nodup) : (keys (remP P k)).Nodup := nd.sublist (List.filter_sublist.map _)
theorem keys_setP (v : Int) : keys (setP P k v) = keys P := by
  unfold keys setP
  rw [List.map_map]
  apply List.map_congr_left
  intro x hx
  show (if x.1 = k then (x.1, v) else x).1 = x.1
  split <;> rfl
theorem setP_same (v : Int) (h : k ∉ keys P) : setP P k v = P := by
  unfold setP
  conv => rhs; rw [← List.map_id P]
  apply List.map_congr_left
  intro x hx
  rw [if_neg (fun e => h (List.mem_map.2 ⟨x, hx, e⟩))]
  rfl
theorem remP_same (h : k ∉ keys P) : remP P k = P := by
  unfold remP
  rw [List.filter_eq_self]
  intro x hx
  have : x.1 ≠ k := fun e => h (List.mem_map.2 ⟨x, hx, e⟩)
  simpa using this
theorem idxK_at (h : k ∈ keys P) : ∃ (p : Nat) (x : Int × Int), idxK P k = p ∧ P[p]? = some x ∧ x.1 = k := by
  rcases idxT_cases (fun x => decide (x.1 = k)) P with ⟨h1, _⟩ | ⟨p, x, h1, h2, h3, _⟩
  · have h1 : idxK P k = -1 := h1
    have := idxK_ge.2 h
    omega
  · exact ⟨p, x, h1, h2, of_decide_eq_true h3⟩
theorem set_is (nd : (keys P).Nodup) (v : Int) (h : k ∈ keys P) : P.set (idxK P k).toNat (k, v) = setP P k v := by
  obtain ⟨p, x, h1, h2, h3⟩ := idxK_at h
  obtain ⟨g1, g2, _, g4, g5⟩ := at_key nd h2
  rw [h3] at g4 g5
  rw [h1, show ((p : Nat) : Int).toNat = p from rfl, g2]
  conv => rhs; rw [g1]
  have e1 := setP_same (P := P.take p) v g4
  have e2 := setP_same (P := P.drop (p + 1)) v g5
  unfold setP at e1 e2 ⊢
  rw [List.map_append, List.map_cons, e1, e2, if_pos h3, h3]
theorem erase_is (nd : (keys P).Nodup) (h : k ∈ keys P) : P.eraseIdx (idxK P k).toNat = remP P k := by
  obtain ⟨p, x, h1, h2, h3⟩ := idxK_at h
  obtain ⟨g1, _, g3, g4, g5⟩ := at_key nd h2
  rw [h3] at g4 g5
  rw [h1, show ((p : Nat) : Int).toNat = p from rfl, g3]
  conv => rhs; rw [g1]
  have e1 := remP_same (P := P.take p) g4
  have e2 := remP_same (P := P.drop (p + 1)) g5
  unfold remP at e1 e2 ⊢
  rw [List.filter_append, List.filter_cons_of_neg (by simp [h3]), e1, e2]
theorem valK_out (h : k ∉ keys P) : valK P k = 0 := valK_miss fun y hy => decide_eq_false fun e => h (List.mem_map.2 ⟨y, hy, e⟩)
end
/-- Its pairs' keys are the policy's. -/
structure MS.Inv {π : Pol} (x : MS π) : Prop where
  ok : π.ok x.s
  nd : (keys x.P).Nodup
  ks : ∀ k, k ∈ keys x.P ↔ k ∈ π.ks x.s
theorem MS.Inv.len {π : Pol} {x : MS π} (h : x.Inv) : (π.ks x.s).length = x.P.length := by
  have h1 := sub_len h.nd (fun k hk => (h.ks k).1 hk)
  have h2 := sub_len (π.nd x.s h.ok).1 (fun k hk => (h.ks k).2 hk)
  have h3 : (keys x.P).length = x.P.length := List.length_map _
  omega
theorem fitsB_of {m : List (Int × Int)} {o : LOp} {a : LAns} (h1 : mayOut m o = true ∨ a.out = []) (h2 : a.hit = (want m o a).hit) (h3 : a.val = (want m o a).val) (h4 : a.n = (want m o a).n) (h5 : a.err = (want m o a).err) (h6 : outB m a.out = true) : fitsB m o a = true := by
  unfold fitsB
  rw [decide_eq_true h2, decide_eq_true h3, decide_eq_true h4, decide_eq_true h5, h6]
  rcases h1 with h | h
  · rw [h]; rfl
  · rw [decide_eq_true h]; simp
theorem outB_nil (m : List (Int × Int)) : outB m [] = true := decide_eq_true ⟨fun x hx => (nomatch hx), List.nodup_nil⟩
/-- A step: its answer fits, and its pairs are the map behind it. -/
theorem step_law {π : Pol} {x : MS π} {o : LOp} (h : x.Inv) (ho : o.Small) : fitsB x.P o (stepM x o).2 = true ∧ behindM x.P o (stepM x o).2 = (stepM x o).1.P ∧ (stepM x o).1.Inv := by
  have hge : idxK x.P o.key ≥ 0 ↔ o.key ∈ π.ks x.s := idxK_ge.trans (h.ks o.key)
  unfold stepM
  by_cases k1 : o.kind = 1
  · rw [if_pos k1]
    have w : ∀ a, want x.P o a = ⟨decide (idxK x.P o.key ≥ 0), valK x.P o.key, 0, 0⟩ := fun a => if_pos (by rw [k1]; rfl)
    have b : ∀ a, a.out = [] → behindM x.P o a = x.P := fun a ha => by
      unfold behindM
      rw [if_neg (by omega), if_neg (by omega), ha, rest_nil]
    by_cases hk : o.key ∈ π.ks x.s
    · rw [if_pos hk]
      obtain ⟨t1, t2⟩ := π.oTouch x.s o.key h.ok ho.key
      exact ⟨fitsB_of (.inr rfl) (by rw [w]; exact (decide_eq_true (hge.2 hk)).symm) (by rw [w]) (by rw [w]) (by rw [w]) (outB_nil _), b _ rfl, t1, h.nd, fun k => (h.ks k).trans (t2 k).symm⟩
    · rw [if_neg hk]
      exact ⟨fitsB_of (.inr rfl) (by rw [w]; exact (decide_eq_false fun e => hk (hge.1 e)).symm) (by rw [w]; exact (valK_out fun e => hk ((h.ks _).1 e)).symm) (by rw [w]) (by rw [w]) (outB_nil _), b _ rfl, h.ok, h.nd, h.ks⟩
  rw [if_neg k1]
  by_cases k2 : o.kind = 2
  · rw [if_pos k2]
    have w : ∀ a, want x.P o a = ⟨decide (idxK x.P o.key ≥ 0), valK x.P o.key, 0, 0⟩ := fun a => if_pos (by rw [k2]; rfl)
    unfold putM
    by_cases hk : o.key ∈ π.ks x.s
    · rw [if_pos hk]
      obtain ⟨t1, t2⟩ := π.oTouch x.s o.key h.ok ho.key
      refine ⟨fitsB_of (.inr rfl) (by rw [w]; exact (decide_eq_true (hge.2 hk)).symm) (by rw [w]) (by rw [w]) (by rw [w]) (outB_nil _), ?_, t1, by rw [show (MS.mk (π := π) (π.touch x.s o.key) (setP x.P o.key o.val) x.h x.m x.e).P = setP x.P o.key o.val from rfl, keys_setP]; exact h.nd, fun k => ?_⟩
      · unfold behindM
        rw [if_pos k2, rest_nil, if_pos (hge.2 hk)]
        exact set_is h.nd o.val ((h.ks _).2 hk)
      · show k ∈ keys (setP x.P o.key o.val) ↔ _
        rw [keys_setP]
        exact (h.ks k).trans (t2 k).symm
    · rw [if_neg hk]
      obtain ⟨t1, t2, t3, t4⟩ := π.oAdmit x.s o.key h.ok ho.key hk
      have hin : ∀ k ∈ (π.admit x.s o.key).2, k ∈ keys x.P := fun k hk => (h.ks k).2 (t3 k hk)
      have hno : o.key ∉ keys (goA x.P (π.admit x.s o.key).2).1 := fun e => hk ((h.ks _).1 ((keys_goA t2 _).1 e).1)
      refine ⟨fitsB_of (.inl ?_) (by rw [w]; exact (decide_eq_false fun e => hk (hge.1 e)).symm) (by rw [w]; exact (valK_out fun e => hk ((h.ks _).1 e)).symm) (by rw [w]) (by rw [w]) (goA_out h.nd t2 hin), ?_, t1, ?_, fun k => ?_⟩
      · unfold mayOut
        rw [decide_eq_true k2, decide_eq_true (show idxK x.P o.key < 0 from by have hh : ¬ idxK x.P o.key ≥ 0 := fun e => hk (hge.1 e); omega)]
        simp
      · unfold behindM
        rw [if_pos k2]
        show (if idxK (rest x.P (goA x.P (π.admit x.s o.key).2).2) o.key ≥ 0 then _ else rest x.P (goA x.P (π.admit x.s o.key).2).2 ++ [(o.key, o.val)]) = _
        rw [rest_goA h.nd t2 hin, if_neg (fun e => hno (idxK_ge.1 e))]
      · show (keys ((goA x.P (π.admit x.s o.key).2).1 ++ [(o.key, o.val)])).Nodup
        unfold keys at hno ⊢
        rw [List.map_append]
        exact List.nodup_append.2 ⟨nodup_goA h.nd t2, by simp, fun a ha b hb e => by have h1 : a = o.key := e.trans (List.mem_singleton.1 hb); subst h1; exact hno ha⟩
      · show k ∈ keys ((goA x.P (π.admit x.s o.key).2).1 ++ [(o.key, o.val)]) ↔ k ∈ π.ks (π.admit x.s o.key).1
        rw [t4 k]
        have e : k ∈ keys ((goA x.P (π.admit x.s o.key).2).1 ++ [(o.key, o.val)]) ↔ k ∈ keys (goA x.P (π.admit x.s o.key).2).1 ∨ k = o.key := by
          unfold keys
          rw [List.map_append, List.mem_append]
          simp
        rw [e, keys_goA t2, h.ks]
        exact Or.comm
  rw [if_neg k2]
  by_cases k3 : o.kind = 3
  · rw [if_pos k3]
    have w : ∀ a, want x.P o a = ⟨decide (idxK x.P o.key ≥ 0), valK x.P o.key, 0, 0⟩ := fun a => if_pos (by rw [k3]; rfl)
    obtain ⟨t1, t2⟩ := π.oDrop x.s o.key h.ok ho.key
    refine ⟨fitsB_of (.inr rfl) (by rw [w]; exact decide_eq_decide.2 hge.symm) (by rw [w]) (by rw [w]) (by rw [w]) (outB_nil _), ?_, t1, nodup_remP h.nd, fun k => ?_⟩
    · unfold behindM
      rw [if_neg (by omega), rest_nil]
      by_cases hk : idxK x.P o.key ≥ 0
      · rw [if_pos ⟨k3, hk⟩]
        exact erase_is h.nd (idxK_ge.1 hk)
      · rw [if_neg (fun e => hk e.2)]
        exact (remP_same fun e => hk (idxK_ge.2 e)).symm
    · show k ∈ keys (remP x.P o.key) ↔ _
      rw [keys_remP, h.ks, t2 k]
  rw [if_neg k3]
  have n123 : is123 o.kind = false := by
    unfold is123
    rw [decide_eq_false k1, decide_eq_false k2, decide_eq_false k3]; rfl
  have b : ∀ a, behindM x.P o a = rest x.P a.out := fun a => by
    unfold behindM
    rw [if_neg k2, if_neg (fun e => k3 e.1)]
  by_cases k4 : o.kind = 4
  · rw [if_pos k4]
    have w : ∀ a, want x.P o a = ⟨false, 0, 0, if a.err = 1 ∧ a.out = [] then 1 else 0⟩ := fun a => by
      unfold want
      rw [if_neg (by rw [n123]; simp), if_neg (by omega), if_pos k4]
    have w0 : ∀ a : LAns, a.err = 0 → a.err = (want x.P o a).err := fun a ha => by
      rw [w]
      show a.err = if a.err = 1 ∧ a.out = [] then 1 else 0
      rw [if_neg (fun e => by have := e.1; omega), ha]
    have w1 : ∀ a : LAns, a.err = 1 → a.out = [] → a.err = (want x.P o a).err := fun a ha hb => by
      rw [w]
      show a.err = if a.err = 1 ∧ a.out = [] then 1 else 0
      rw [if_pos ⟨ha, hb⟩, ha]
    by_cases hm : 1 ≤ o.n ∧ o.n ≤ 1048576
    · rw [if_pos hm]
      obtain ⟨t1, t2, t3, t4⟩ := π.oResize x.s o.n h.ok hm.1 (ho.n hm.1 hm.2)
      have hin : ∀ k ∈ (π.resize x.s o.n).2, k ∈ keys x.P := fun k hk => (h.ks k).2 (t3 k hk)
      refine ⟨fitsB_of (.inl (by unfold mayOut; rw [decide_eq_true k4]; rfl)) (by rw [w]) (by rw [w]) (by rw [w]) (w0 _ rfl) (goA_out h.nd t2 hin), ?_, t1, nodup_goA h.nd t2, fun k => ?_⟩
      · rw [b]
        exact rest_goA h.nd t2 hin
      · show k ∈ keys (goA x.P (π.resize x.s o.n).2).1 ↔ _
        rw [keys_goA t2, h.ks, t4 k]
    · rw [if_neg hm]
      exact ⟨fitsB_of (.inr rfl) (by rw [w]) (by rw [w]) (by rw [w]) (w1 _ rfl rfl) (outB_nil _), by rw [b]; exact rest_nil _, h⟩
  rw [if_neg k4]
  by_cases k5 : o.kind = 5
  · rw [if_pos k5]
    have w : ∀ a, want x.P o a = ⟨false, 0, x.P.length, 0⟩ := fun a => by
      unfold want
      rw [if_neg (by rw [n123]; simp), if_pos k5]
    exact ⟨fitsB_of (.inr rfl) (by rw [w]) (by rw [w]) (by rw [w]; show ((π.ks x.s).length : Int) = x.P.length; rw [h.len]) (by rw [w]) (outB_nil _), by rw [b]; exact rest_nil _, h⟩
  · rw [if_neg k5]
    have w : ∀ a, want x.P o a = ⟨false, 0, 0, 2⟩ := fun a => by
      unfold want
      rw [if_neg (by rw [n123]; simp), if_neg k5, if_neg k4]
    exact ⟨fitsB_of (.inr rfl) (by rw [w]) (by rw [w]) (by rw [w]) (by rw [w]) (outB_nil _), by rw [b]; exact rest_nil _, h⟩
end Go.Al
