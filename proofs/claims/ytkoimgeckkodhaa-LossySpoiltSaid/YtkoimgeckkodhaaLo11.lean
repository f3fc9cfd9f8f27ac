/- A map that forgets, plainly: what is in the map behind an operation. Conditions: none. -/
import Derived.Test.YtkoimgeckkodhaaLo10
set_option linter.unusedVariables false
set_option linter.unusedSimpArgs false
namespace Go.Al
section
variable {m q out : List (Int × Int)} {k v : Int}
theorem idxK_ge : idxK m k ≥ 0 ↔ k ∈ keys m := by
  have h := idxT_ge (t := fun x => decide (x.1 = k)) (l := m)
  have h2 : m.any (fun x => decide (x.1 = k)) = true ↔ k ∈ keys m := by
    rw [List.any_eq_true]
    constructor
    · rintro ⟨x, hx, h⟩
      exact List.mem_map.2 ⟨x, hx, of_decide_eq_true h⟩
    · intro h
      obtain ⟨x, hx, rfl⟩ := List.mem_map.1 h
      exact ⟨x, hx, decide_eq_true rfl⟩
  rw [← h2, ← h]
  exact decide_eq_true_iff.symm
theorem nodup_val : ∀ {m : List (Int × Int)} {v w : Int}, (keys m).Nodup → (k, v) ∈ m → (k, w) ∈ m → v = w
  | [], _, _, _, h1, _ => by cases h1
  | x :: m, v, w, nd, h1, h2 => by
    simp only [keys, List.map_cons, List.nodup_cons] at nd
    rcases List.mem_cons.1 h1 with e1 | e1 <;> rcases List.mem_cons.1 h2 with e2 | e2
    · exact (Prod.ext_iff.1 (e1.trans e2.symm)).2
    · exact absurd (List.mem_map.2 ⟨_, e2, by rw [← e1]⟩) nd.1
    · exact absurd (List.mem_map.2 ⟨_, e1, by rw [← e2]⟩) nd.1
    · exact nodup_val nd.2 e1 e2
theorem mem_keys (h : (k, v) ∈ m) : k ∈ keys m := List.mem_map.2 ⟨_, h, rfl⟩
theorem keys_mem (h : k ∈ keys m) : ∃ v, (k, v) ∈ m := by
  obtain ⟨x, hx, rfl⟩ := List.mem_map.1 h
  exact ⟨x.2, hx⟩
theorem valK_mem (nd : (keys m).Nodup) (h : (k, v) ∈ m) : valK m k = v := by
  rcases idxT_cases (fun x => decide (x.1 = k)) m with ⟨_, h2⟩ | ⟨p, x, _, hx, hxt, hq⟩
  · have := h2 _ h
    simp at this
  · rw [valK_hit hx hxt hq]
    have hx1 : x.1 = k := of_decide_eq_true hxt
    have hm : (k, x.2) ∈ m := by rw [← hx1]; exact List.mem_of_getElem? hx
    exact nodup_val nd hm h
theorem rest_nodup (nd : (keys m).Nodup) : (keys (rest m out)).Nodup := nd.sublist (List.filter_sublist.map _)
theorem rest_mem (nd : (keys m).Nodup) (ho : ∀ x ∈ out, x ∈ m) : (k, v) ∈ rest m out ↔ (k, v) ∈ m ∧ k ∉ keys out := by
  unfold rest stay
  rw [List.mem_filter]
  constructor
  · rintro ⟨h1, h2⟩
    refine ⟨h1, fun hk => ?_⟩
    obtain ⟨w, hw⟩ := keys_mem hk
    rw [nodup_val nd h1 (ho _ hw)] at h2
    simp [hw] at h2
  · rintro ⟨h1, h2⟩
    refine ⟨h1, ?_⟩
    have : (k, v) ∉ out := fun h => h2 (mem_keys h)
    simp [this]
/-- A row at a key's place. -/
theorem at_key (nd : (keys q).Nodup) {p : Nat} {x : Int × Int} (hx : q[p]? = some x) : q = q.take p ++ x :: q.drop (p + 1) ∧ (∀ y, q.set p y = q.take p ++ y :: q.drop (p + 1)) ∧ q.eraseIdx p = q.take p ++ q.drop (p + 1) ∧ x.1 ∉ keys (q.take p) ∧ x.1 ∉ keys (q.drop (p + 1)) := by
  obtain ⟨hp, e⟩ := List.getElem?_eq_some_iff.1 hx
  have h1 : q = q.take p ++ x :: q.drop (p + 1) := by rw [← e, List.getElem_cons_drop, List.take_append_drop]
  refine ⟨h1, fun y => by rw [List.set_eq_take_append_cons_drop, if_pos hp], List.eraseIdx_eq_take_drop_succ .., ?_, ?_⟩
  · intro h
    rw [h1] at nd
    unfold keys at nd h
    rw [List.map_append, List.map_cons] at nd
    exact (List.nodup_append.1 nd).2.2 _ h _ List.mem_cons_self rfl
  · intro h
    rw [h1] at nd
    unfold keys at nd h
    rw [List.map_append, List.map_cons] at nd
    exact (List.nodup_cons.1 (List.nodup_append.1 nd).2.1).1 h
/-- What is behind an operation: no key twice, and just these pairs. -/
theorem behind_law (nd : (keys m).Nodup) (o : LOp) (a : LAns) (ho : ∀ x ∈ a.out, x ∈ m) :
    (keys (behindM m o a)).Nodup ∧ ∀ k v, (k, v) ∈ behindM m o a ↔ (if o.kind = 2 ∧ o.key = k then v = o.val else if o.kind = 3 ∧ o.key = k then False else (k, v) ∈ m ∧ k ∉ keys a.out) := by
  have ndq := rest_nodup (out := a.out) nd
  have hr := fun k v => rest_mem (k := k) (v := v) nd ho
  unfold behindM
  generalize rest m a.out = q at *
  rcases idxT_cases (fun x => decide (x.1 = o.key)) q with ⟨hk, hq⟩ | ⟨p, x, hk, hx, hxt, hq⟩
  · have hk : idxK q o.key = -1 := hk
    have hno : o.key ∉ keys q := fun h => by
      have := idxK_ge.2 h
      omega
    rw [hk]
    by_cases k2 : o.kind = 2
    · rw [if_pos k2, if_neg (by omega)]
      refine ⟨?_, fun k v => ?_⟩
      · unfold keys at ndq hno ⊢
        rw [List.map_append]
        exact List.nodup_append.2 ⟨ndq, by simp, fun a ha b hb e => hno (by have h1 : b = o.key := List.mem_singleton.1 hb; rw [← h1, ← e]; exact ha)⟩
      · rw [List.mem_append, List.mem_singleton]
        by_cases hkk : o.key = k
        · rw [if_pos ⟨k2, hkk⟩]
          constructor
          · rintro (h | h)
            · exact absurd (mem_keys h) (by rw [← hkk]; exact hno)
            · exact (Prod.ext_iff.1 h).2
          · intro h
            right
            rw [h, hkk]
        · rw [if_neg (fun h => hkk h.2), if_neg (fun h => hkk h.2), ← hr]
          exact ⟨fun h => h.resolve_right fun e => hkk (Prod.ext_iff.1 e).1.symm, .inl⟩
    · rw [if_neg k2, if_neg (fun h => by omega)]
      refine ⟨ndq, fun k v => ?_⟩
      rw [if_neg (fun h => k2 h.1)]
      by_cases hkk : o.kind = 3 ∧ o.key = k
      · rw [if_pos hkk]
        exact ⟨fun h => hno (by rw [hkk.2]; exact mem_keys h), False.elim⟩
      · rw [if_neg hkk, ← hr]
  · have hk : idxK q o.key = p := hk
    have hx1 : x.1 = o.key := of_decide_eq_true hxt
    obtain ⟨g1, g2, g3, g4, g5⟩ := at_key ndq hx
    rw [hx1] at g4 g5
    have hpn : ((p : Int)).toNat = p := by omega
    rw [hk, hpn]
    by_cases k2 : o.kind = 2
    · rw [if_pos k2, if_pos (by omega)]
      refine ⟨?_, fun k v => ?_⟩
      · have : keys (q.set p (o.key, o.val)) = keys q := by
          rw [g2]
          conv => rhs; rw [g1]
          unfold keys
          rw [List.map_append, List.map_append, List.map_cons, List.map_cons, hx1]
        rw [this]; exact ndq
      · rw [g2, List.mem_append, List.mem_cons]
        by_cases hkk : o.key = k
        · rw [if_pos ⟨k2, hkk⟩]
          constructor
          · rintro (h | h | h)
            · exact absurd (mem_keys h) (by rw [← hkk]; exact g4)
            · exact (Prod.ext_iff.1 h).2
            · exact absurd (mem_keys h) (by rw [← hkk]; exact g5)
          · intro h
            exact .inr (.inl (by rw [h, hkk]))
        · rw [if_neg (fun h => hkk h.2), if_neg (fun h => hkk h.2), ← hr]
          conv => rhs; rw [g1]
          rw [List.mem_append, List.mem_cons]
          constructor
          · rintro (h | h | h)
            · exact .inl h
            · exact absurd (Prod.ext_iff.1 h).1.symm hkk
            · exact .inr (.inr h)
          · rintro (h | h | h)
            · exact .inl h
            · exact absurd (by rw [← hx1, ← h]) hkk
            · exact .inr (.inr h)
    · rw [if_neg k2]
      by_cases k3 : o.kind = 3
      · rw [if_pos ⟨k3, by omega⟩]
        refine ⟨?_, fun k v => ?_⟩
        · exact ndq.sublist ((List.eraseIdx_sublist _ _).map _)
        · rw [g3, List.mem_append, if_neg (fun h => k2 h.1)]
          by_cases hkk : o.key = k
          · rw [if_pos ⟨k3, hkk⟩]
            exact ⟨fun h => h.elim (fun h => g4 (by rw [hkk]; exact mem_keys h)) (fun h => g5 (by rw [hkk]; exact mem_keys h)), False.elim⟩
          · rw [if_neg (fun h => hkk h.2), ← hr]
            conv => rhs; rw [g1]
            rw [List.mem_append, List.mem_cons]
            constructor
            · rintro (h | h)
              · exact .inl h
              · exact .inr (.inr h)
            · rintro (h | h | h)
              · exact .inl h
              · exact absurd (by rw [← hx1, ← h]) hkk
              · exact .inr h
      · rw [if_neg (fun h => k3 h.1)]
        refine ⟨ndq, fun k v => ?_⟩
        rw [if_neg (fun h => k2 h.1), if_neg (fun h => k3 h.1), ← hr]
end
theorem fitsB_out {m : List (Int × Int)} {o : LOp} {a : LAns} (h : fitsB m o a = true) : a.hit = (want m o a).hit ∧ a.val = (want m o a).val ∧ (∀ x ∈ a.out, x ∈ m) ∧ (keys a.out).Nodup := by
  unfold fitsB at h
  simp only [Bool.and_eq_true] at h
  obtain ⟨_, h1, h2, _, _, h5⟩ := h
  have h5 := of_decide_eq_true h5
  exact ⟨of_decide_eq_true h1, of_decide_eq_true h2, h5.1, h5.2⟩
/-- All maps on the way have no key twice. -/
theorem mapAt_nodup {l : List LOp} {bs : List LAns} : ∀ i, (∀ q, q < i → fitAt l bs q = true) → (keys (mapAt l bs i)).Nodup
  | 0, _ => List.nodup_nil
  | i + 1, h => by
    have ih := mapAt_nodup i fun q hq => h q (by omega)
    have hf := h i (by omega)
    unfold fitAt at hf
    rw [Bool.and_eq_true] at hf
    exact (behind_law ih _ _ (fitsB_out hf.2).2.2.1).1
end Go.Al
