/- Lists of places: pushing and taking out keep what ties nodes and rows to lists, of rows alone. Conditions: none. -/
import Derived.Test.YtdebjhjnpomlmaaIn1
set_option linter.unusedVariables false
set_option linter.unusedSimpArgs false
set_option maxHeartbeats 1600000
namespace Go.Al
theorem get_set {α : Type} {l : List α} {t u : Nat} {x y : α} (h : (l.set t x)[u]? = some y) : (u = t ∧ y = x) ∨ (u ≠ t ∧ l[u]? = some y) := by
  by_cases e : u = t
  · subst e
    rw [List.getElem?_set_self'] at h
    cases hx : l[u]? with
    | none => rw [hx] at h; cases h
    | some z => rw [hx] at h; simp at h; exact .inl ⟨rfl, h.symm⟩
  · rw [List.getElem?_set_ne (fun h => e h.symm)] at h
    exact .inr ⟨e, h⟩
/-- One list is replaced. -/
theorem LInv.put {R R' : RA} {rows : List Rw} {ls : List (List Int)} (h : LInv R rows ls) {t : Nat} {l l' : List Int} {w : Rw} (hl : ls[t]? = some l) (ok : RaOk R') (his : ∀ k, raIs R' k = raIs R k)
    (hw : w = ⟨l'.headD 0, l'.getLastD 0, l'.length⟩) (hlive : ∀ k ∈ l', raIs R k = true) (hone : l'.Nodup) (hold : ∀ k ∈ l', k ∈ l ∨ ∀ (u : Nat) (m : List Int), ls[u]? = some m → k ∉ m)
    (hnode : ∀ (p : Nat) (k : Int), l'[p]? = some k → (raAt R' k).tag = (t : Int) + 1 ∧ (raAt R' k).prev = prv l' p ∧ (raAt R' k).next = nxt l' p)
    (hsame : ∀ k, k ∉ l' → k ∉ l → raAt R' k = raAt R k) (hgone : ∀ k, k ∉ l' → k ∈ l → (raAt R' k).tag = 0 ∧ (raAt R' k).prev = 0 ∧ (raAt R' k).next = 0) :
    LInv R' (rows.set t w) (ls.set t l') := by
  have hlt : t < ls.length := (List.getElem?_eq_some_iff.1 hl).1
  have hoth : ∀ (u : Nat) (m : List Int), u ≠ t → ls[u]? = some m → ∀ k ∈ m, k ∉ l ∧ k ∉ l' := by
    intro u m hu hm k hk
    have h1 : k ∉ l := fun hkl => hu (h.apart u t m l hm hl k hk hkl)
    refine ⟨h1, fun hk' => ?_⟩
    rcases hold k hk' with h2 | h2
    · exact h1 h2
    · exact h2 u m hm hk
  refine ⟨ok, by simp [h.len], ?_, ?_, ?_, ?_, ?_, ?_⟩
  · intro u m hm
    rcases get_set hm with ⟨rfl, rfl⟩ | ⟨hu, hm⟩
    · rw [List.getElem?_set_self (by rw [h.len]; exact hlt), hw]
    · rw [List.getElem?_set_ne (fun e => hu e.symm)]; exact h.row u m hm
  · intro u m hm i hi
    rw [his]
    rcases get_set hm with ⟨rfl, rfl⟩ | ⟨hu, hm⟩
    · exact hlive i hi
    · exact h.live u m hm i hi
  · intro u m hm
    rcases get_set hm with ⟨rfl, rfl⟩ | ⟨hu, hm⟩
    · exact hone
    · exact h.one u m hm
  · intro u v m m' hm hm' i hi hi'
    have q1 := get_set hm
    have q2 := get_set hm'
    clear hm hm'
    rcases q1 with ⟨e1, e2⟩ | ⟨hu, hm⟩ <;> rcases q2 with ⟨e3, e4⟩ | ⟨hv, hm'⟩
    · rw [e1, e3]
    · rw [e2] at hi; exact absurd hi (hoth v m' hv hm' i hi').2
    · rw [e4] at hi'; exact absurd hi' (hoth u m hu hm i hi).2
    · exact h.apart u v m m' hm hm' i hi hi'
  · intro u m hm p i hp
    rcases get_set hm with ⟨rfl, rfl⟩ | ⟨hu, hm⟩
    · exact hnode p i hp
    · obtain ⟨g1, g2⟩ := hoth u m hu hm i (List.mem_of_getElem? hp)
      rw [hsame i g2 g1]
      exact h.node u m hm p i hp
  · intro i hi
    have h1 : i ∉ l' := hi t l' (by rw [List.getElem?_set_self hlt])
    by_cases h2 : i ∈ l
    · exact hgone i h1 h2
    · rw [hsame i h1 h2]
      refine h.none i fun u m hm hk => ?_
      by_cases hu : u = t
      · subst hu
        rw [hl] at hm
        cases hm
        exact h2 hk
      · exact hi u m (by rw [List.getElem?_set_ne (fun e => hu e.symm)]; exact hm) hk
theorem live_ne {R : RA} (ok : RaOk R) {i : Int} (h : raIs R i = true) : i ≠ 0 := by
  have := (ra_rng ok h).1
  omega
/-- Pushed in front. -/
theorem LInv.front {R : RA} {rows : List Rw} {ls : List (List Int)} (h : LInv R rows ls) {t : Nat} {l : List Int} {i : Int} (hl : ls[t]? = some l) (hi : raIs R i = true) (hno : ∀ (u : Nat) (m : List Int), ls[u]? = some m → i ∉ m) :
    LInv (layR R ⟨l.headD 0, l.getLastD 0, l.length⟩ t 0 i (l.headD 0)).1 (rows.set t (layR R ⟨l.headD 0, l.getLastD 0, l.length⟩ t 0 i (l.headD 0)).2) (ls.set t (i :: l)) := by
  have ok := h.ok
  have i0 := live_ne ok hi
  have hil := hno t l hl
  have hn : l.headD 0 ≠ 0 → raIs R (l.headD 0) = true ∧ l.headD 0 ≠ i := by
    intro hne
    cases l with
    | nil => exact absurd rfl hne
    | cons a l => exact ⟨h.live t _ hl a (by simp), fun e => hil (by rw [← e]; simp)⟩
  have hat := layR_at (w := ⟨l.headD 0, l.getLastD 0, l.length⟩) (t := t) (p := 0) (n := l.headD 0) ok hi (fun hp => absurd rfl hp) hn (.inl rfl)
  have hrow := layR_row (R := R) (w := ⟨l.headD 0, l.getLastD 0, l.length⟩) (t := t) (p := 0) (n := l.headD 0) i0
  have hok : RaOk (layR R ⟨l.headD 0, l.getLastD 0, l.length⟩ t 0 i (l.headD 0)).1 ∧ ∀ k, raIs (layR R ⟨l.headD 0, l.getLastD 0, l.length⟩ t 0 i (l.headD 0)).1 k = raIs R k := by
    unfold layR
    have a1 := joinR_ok (wth_ok ok i (gLay t 0 (l.headD 0))) ⟨l.headD 0, l.getLastD 0, l.length⟩ 0 i
    have a2 := joinR_ok a1.1 (joinR (wth R i (gLay t 0 (l.headD 0))) ⟨l.headD 0, l.getLastD 0, l.length⟩ 0 i).2 i (l.headD 0)
    exact ⟨a2.1, fun k => by rw [a2.2, a1.2, wth_is]⟩
  refine h.put hl hok.1 hok.2 ?_ ?_ ?_ ?_ ?_ ?_ ?_
  · rw [hrow]
    cases l with
    | nil => simp
    | cons a l =>
      have ha : a ≠ 0 := live_ne ok (h.live t _ hl a (by simp))
      simp [ha]
  · intro k hk
    rcases List.mem_cons.1 hk with rfl | hk
    · exact hi
    · exact h.live t l hl k hk
  · exact List.nodup_cons.2 ⟨hil, h.one t l hl⟩
  · intro k hk
    rcases List.mem_cons.1 hk with rfl | hk
    · exact .inr hno
    · exact .inl hk
  · intro p k hk
    rw [hat]
    cases p with
    | zero =>
      simp at hk
      subst hk
      rw [if_pos rfl]
      refine ⟨rfl, rfl, ?_⟩
      cases l <;> simp [gLay, nxt]
    | succ p =>
      have hk : l[p]? = some k := by simpa using hk
      have hkl := List.mem_of_getElem? hk
      have hki : k ≠ i := fun e => hil (by rw [← e]; exact hkl)
      obtain ⟨n1, n2, n3⟩ := h.node t l hl p k hk
      rw [if_neg hki, if_neg (by simp)]
      have hhd : k = l.headD 0 ↔ p = 0 := by
        constructor
        · intro e
          have hn := h.one t l hl
          cases l with
          | nil => simp at hk
          | cons a l =>
            have h0 : (a :: l)[0]? = some k := by rw [e]; rfl
            have hp := (List.getElem?_eq_some_iff.1 hk).1
            exact (List.getElem?_inj hp hn).1 (by rw [hk, h0])
        · rintro rfl
          cases l with
          | nil => simp at hk
          | cons a l => simp at hk; simp [hk]
      by_cases e : p = 0
      · have hk2 := hhd.2 e
        have hk0 := live_ne ok (h.live t l hl k hkl)
        rw [if_pos ⟨by rw [← hk2]; exact hk0, hk2⟩, ← hk2]
        subst e
        refine ⟨n1, by simp [gPrev, prv], ?_⟩
        show (raAt R k).next = _
        rw [n3]
        simp [nxt]
      · rw [if_neg (fun hh => e (hhd.1 hh.2))]
        refine ⟨n1, ?_, ?_⟩
        · rw [n2]
          unfold prv
          rw [if_neg e, if_neg (by omega)]
          obtain ⟨p', rfl⟩ : ∃ p', p = p' + 1 := ⟨p - 1, by omega⟩
          simp
        · rw [n3]; simp [nxt]
  · intro k h1 h2
    rw [hat, if_neg (fun e => h1 (by rw [e]; simp)), if_neg (by simp), if_neg]
    rintro ⟨g1, g2⟩
    apply h2
    cases l with
    | nil => exact absurd rfl g1
    | cons a l => rw [g2]; simp
  · intro k h1 h2
    exact absurd (List.mem_cons_of_mem _ h2) h1
end Go.Al
