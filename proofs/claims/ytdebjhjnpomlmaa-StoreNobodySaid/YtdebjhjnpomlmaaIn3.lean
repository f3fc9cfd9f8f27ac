/- Lists of places: pushing behind keeps what ties nodes and rows to lists, of rows alone. Conditions: none. -/
import Derived.Test.YtdebjhjnpomlmaaIn2
set_option linter.unusedVariables false
set_option linter.unusedSimpArgs false
set_option maxHeartbeats 1600000
namespace Go.Al
theorem lastD_get (l : List Int) : l.getLastD 0 = l.getD (l.length - 1) 0 := by
  cases l with
  | nil => rfl
  | cons a l =>
    rw [List.getLastD_cons, List.getLastD_eq_getLast?, List.getLast?_eq_getElem?]
    cases l with
    | nil => simp
    | cons b l => simp [List.getD_eq_getElem?_getD]
theorem lastD_mem {l : List Int} (h : l ≠ []) : l[l.length - 1]? = some (l.getLastD 0) := by
  have := List.length_pos_iff.2 h
  rw [lastD_get, List.getD_eq_getElem?_getD, List.getElem?_eq_getElem (by omega)]
  rfl
/-- Pushed behind. -/
theorem LInv.back {R : RA} {rows : List Rw} {ls : List (List Int)} (h : LInv R rows ls) {t : Nat} {l : List Int} {i : Int} (hl : ls[t]? = some l) (hi : raIs R i = true) (hno : ∀ (u : Nat) (m : List Int), ls[u]? = some m → i ∉ m) :
    LInv (layR R ⟨l.headD 0, l.getLastD 0, l.length⟩ t (l.getLastD 0) i 0).1 (rows.set t (layR R ⟨l.headD 0, l.getLastD 0, l.length⟩ t (l.getLastD 0) i 0).2) (ls.set t (l ++ [i])) := by
  have ok := h.ok
  have i0 := live_ne ok hi
  have hil := hno t l hl
  have hlm : l ≠ [] → l.getLastD 0 ∈ l := fun hne => List.mem_of_getElem? (lastD_mem hne)
  have hne0 : l.getLastD 0 ≠ 0 → l ≠ [] := fun e e2 => e (by rw [e2]; rfl)
  have hp : l.getLastD 0 ≠ 0 → raIs R (l.getLastD 0) = true ∧ l.getLastD 0 ≠ i := fun e => ⟨h.live t l hl _ (hlm (hne0 e)), fun e2 => hil (by rw [← e2]; exact hlm (hne0 e))⟩
  have hat := layR_at (w := ⟨l.headD 0, l.getLastD 0, l.length⟩) (t := t) (p := l.getLastD 0) (n := 0) ok hi hp (fun hn => absurd rfl hn) (.inr rfl)
  have hrow := layR_row (R := R) (w := ⟨l.headD 0, l.getLastD 0, l.length⟩) (t := t) (p := l.getLastD 0) (n := 0) i0
  have hok : RaOk (layR R ⟨l.headD 0, l.getLastD 0, l.length⟩ t (l.getLastD 0) i 0).1 ∧ ∀ k, raIs (layR R ⟨l.headD 0, l.getLastD 0, l.length⟩ t (l.getLastD 0) i 0).1 k = raIs R k := by
    unfold layR
    have a1 := joinR_ok (wth_ok ok i (gLay t (l.getLastD 0) 0)) ⟨l.headD 0, l.getLastD 0, l.length⟩ (l.getLastD 0) i
    have a2 := joinR_ok a1.1 (joinR (wth R i (gLay t (l.getLastD 0) 0)) ⟨l.headD 0, l.getLastD 0, l.length⟩ (l.getLastD 0) i).2 i 0
    exact ⟨a2.1, fun k => by rw [a2.2, a1.2, wth_is]⟩
  refine h.put hl hok.1 hok.2 ?_ ?_ ?_ ?_ ?_ ?_ ?_
  · rw [hrow]
    cases l with
    | nil => simp
    | cons a l =>
      have ha : (a :: l).getLastD 0 ≠ 0 := live_ne ok (h.live t _ hl _ (hlm (by simp)))
      rw [if_neg ha]
      simp
      show i = ((a :: l) ++ [i]).getLast?.getD 0
      rw [List.getLast?_concat]; rfl
  · intro k hk
    rcases List.mem_append.1 hk with hk | hk
    · exact h.live t l hl k hk
    · rw [List.mem_singleton] at hk; rw [hk]; exact hi
  · rw [List.nodup_append]
    refine ⟨h.one t l hl, by simp, ?_⟩
    rintro a ha b hb rfl
    rw [List.mem_singleton] at hb
    exact hil (by rw [← hb]; exact ha)
  · intro k hk
    rcases List.mem_append.1 hk with hk | hk
    · exact .inl hk
    · rw [List.mem_singleton] at hk; rw [hk]; exact .inr hno
  · intro p k hk
    rw [hat]
    by_cases hpl : p < l.length
    · rw [List.getElem?_append_left hpl] at hk
      have hkl := List.mem_of_getElem? hk
      have hki : k ≠ i := fun e => hil (by rw [← e]; exact hkl)
      obtain ⟨n1, n2, n3⟩ := h.node t l hl p k hk
      have hne : l ≠ [] := by rintro rfl; simp at hpl
      have hlast : k = l.getLastD 0 ↔ p = l.length - 1 := by
        have hm := lastD_mem hne
        constructor
        · intro e
          exact (List.getElem?_inj hpl (h.one t l hl)).1 (by rw [hk, hm, e])
        · intro e
          rw [← e, hk] at hm
          exact Option.some.inj hm
      have hprv : prv (l ++ [i]) p = prv l p := by
        unfold prv
        by_cases e : p = 0
        · rw [if_pos e, if_pos e]
        · rw [if_neg e, if_neg e, List.getD_eq_getElem?_getD, List.getD_eq_getElem?_getD, List.getElem?_append_left (by omega)]
      rw [if_neg hki]
      by_cases e : p = l.length - 1
      · have hk2 := hlast.2 e
        have hk0 := live_ne ok (h.live t l hl k hkl)
        rw [if_pos ⟨by rw [← hk2]; exact hk0, hk2⟩, ← hk2]
        refine ⟨n1, by rw [hprv]; exact n2, ?_⟩
        show i = _
        unfold nxt
        rw [List.getD_eq_getElem?_getD, List.getElem?_append_right (by omega), show p + 1 - l.length = 0 by omega]
        rfl
      · rw [if_neg (fun hh => e (hlast.1 hh.2)), if_neg (by simp)]
        refine ⟨n1, by rw [hprv]; exact n2, ?_⟩
        rw [n3]
        unfold nxt
        rw [List.getD_eq_getElem?_getD, List.getD_eq_getElem?_getD, List.getElem?_append_left (by omega)]
    · rw [List.getElem?_append_right (by omega)] at hk
      have hp0 : p - l.length = 0 := by
        have := (List.getElem?_eq_some_iff.1 hk).1
        simp at this; omega
      rw [hp0] at hk
      simp at hk
      have hpe : p = l.length := by omega
      subst hk
      rw [if_pos rfl]
      refine ⟨rfl, ?_, ?_⟩
      · show l.getLastD 0 = _
        unfold prv
        by_cases e : p = 0
        · rw [if_pos e]
          have : l = [] := List.length_eq_zero_iff.1 (by omega)
          rw [this]; rfl
        · rw [if_neg e, lastD_get, List.getD_eq_getElem?_getD, List.getD_eq_getElem?_getD, List.getElem?_append_left (by omega), hpe]
      · show (0 : Int) = _
        unfold nxt
        rw [List.getD_eq_getElem?_getD, List.getElem?_eq_none (by simp; omega)]
        rfl
  · intro k h1 h2
    rw [hat, if_neg (fun e => h1 (by rw [e]; simp)), if_neg, if_neg (by simp)]
    rintro ⟨g1, g2⟩
    exact h2 (by rw [g2]; exact hlm (hne0 g1))
  · intro k h1 h2
    exact absurd (List.mem_append_left _ h2) h1
end Go.Al
