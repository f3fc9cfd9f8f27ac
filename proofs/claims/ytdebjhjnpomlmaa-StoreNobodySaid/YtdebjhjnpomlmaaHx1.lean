/- Numbers by keys, in slots: of rows alone: how a key is looked for, and laid. Conditions: none. -/
import Derived.Test.YtdebjhjnpomlmaaTy
set_option linter.unusedVariables false
set_option linter.unusedSimpArgs false
namespace Go.Al
structure Sl3 where
  key : Int
  n : Int
  full : Bool
  deriving DecidableEq, Inhabited
def z3 : Sl3 := ⟨0, 0, false⟩
abbrev Tb := List Sl3
def sl (T : Tb) (q : Nat) : Sl3 := T.getD q z3
/-- So far behind a place, round and round; and how far one is behind another. -/
def adv (N a d : Nat) : Nat := if a + d < N then a + d else a + d - N
def D (N a b : Nat) : Nat := if a ≤ b then b - a else b + N - a
theorem adv_lt {N a d : Nat} (ha : a < N) (hd : d ≤ N) : adv N a d < N := by unfold adv; split <;> omega
theorem D_lt {N a b : Nat} (ha : a < N) (hb : b < N) : D N a b < N := by unfold D; split <;> omega
theorem adv_D {N a b : Nat} (ha : a < N) (hb : b < N) : adv N a (D N a b) = b := by unfold adv D; split <;> split <;> omega
theorem D_adv {N a d : Nat} (ha : a < N) (hd : d < N) : D N a (adv N a d) = d := by unfold adv D; split <;> split <;> omega
theorem adv_zero {N a : Nat} (ha : a < N) : adv N a 0 = a := by unfold adv; split <;> omega
theorem adv_succ {N a d : Nat} (ha : a < N) (hd : d < N) : adv N a (d + 1) = adv N (adv N a d) 1 := by unfold adv; split <;> split <;> split <;> omega
theorem D_inj {N a b c : Nat} (ha : a < N) (hb : b < N) (hc : c < N) (h : D N a b = D N a c) : b = c := by rw [← adv_D ha hb, h, adv_D ha hc]
theorem sl_set {T : Tb} {q r : Nat} {s : Sl3} (hq : q < T.length) : sl (T.set q s) r = if r = q then s else sl T r := by
  unfold sl
  rw [List.getD_eq_getElem?_getD, List.getElem?_set]
  by_cases h : q = r
  · subst h; simp [hq]
  · have : ¬ r = q := fun e => h e.symm
    simp [h, this, List.getD_eq_getElem?_getD]
theorem sl_ext {T U : Tb} (hl : T.length = U.length) (h : ∀ r, r < T.length → sl T r = sl U r) : T = U := by
  apply List.ext_getElem hl
  intro i h1 h2
  have := h i h1
  unfold sl at this
  simpa [List.getD_eq_getElem?_getD, h1, h2] using this
theorem sl_get {T : Tb} {q : Nat} (hq : q < T.length) : T[q]? = some (sl T q) := by
  unfold sl
  simp [List.getD_eq_getElem?_getD, hq]
structure IsFind (N : Nat) (h : Int → Nat) (T : Tb) (k : Int) (q : Nat) : Prop where
  lt : q < N
  hit : (sl T q).full = false ∨ (sl T q).key = k
  miss : ∀ r, r < N → D N (h k) r < D N (h k) q → (sl T r).full = true ∧ (sl T r).key ≠ k
theorem IsFind.uniq {N : Nat} {h : Int → Nat} {T : Tb} {k : Int} {q q' : Nat} (hk : h k < N) (a : IsFind N h T k q) (b : IsFind N h T k q') : q = q' := by
  have no : ∀ {q q' : Nat}, IsFind N h T k q → IsFind N h T k q' → ¬ D N (h k) q < D N (h k) q' := by
    intro q q' a b hlt
    obtain ⟨m1, m2⟩ := b.miss q a.lt hlt
    rcases a.hit with e | e
    · rw [e] at m1; cases m1
    · exact m2 e
  have h1 := no a b
  have h2 := no b a
  exact D_inj hk a.lt b.lt (by omega)
theorem find_ex {N : Nat} {h : Int → Nat} {T : Tb} {k : Int} : ∀ (m q : Nat), q < N → ((sl T q).full = false ∨ (sl T q).key = k) → D N (h k) q ≤ m → ∃ q, IsFind N h T k q
  | 0, q, hq, hh, hm => ⟨q, hq, hh, fun r _ hr => by omega⟩
  | m + 1, q, hq, hh, hm => by
    by_cases hx : ∃ r, r < N ∧ D N (h k) r < D N (h k) q ∧ ((sl T r).full = false ∨ (sl T r).key = k)
    · obtain ⟨r, r1, r2, r3⟩ := hx
      exact find_ex m r r1 r3 (by omega)
    · refine ⟨q, hq, hh, fun r r1 r2 => ⟨?_, ?_⟩⟩
      · cases e : (sl T r).full with
        | true => rfl
        | false => exact absurd ⟨r, r1, r2, .inl e⟩ hx
      · exact fun e => hx ⟨r, r1, r2, .inr e⟩
def lk (N : Nat) (T : Tb) (k : Int) (a : Nat) : Nat → Nat → Nat
  | 0, d => adv N a d
  | f + 1, d => if (sl T (adv N a d)).full && decide ((sl T (adv N a d)).key ≠ k) then lk N T k a f (d + 1) else adv N a d
def hFind (N : Nat) (h : Int → Nat) (T : Tb) (k : Int) : Nat := lk N T k (h k) N 0
theorem hFind_is {N : Nat} {h : Int → Nat} {T : Tb} {k : Int} {q : Nat} (hk : h k < N) (hq : IsFind N h T k q) : hFind N h T k = q := by
  have gen : ∀ (f d : Nat), d + f = N → d ≤ D N (h k) q → lk N T k (h k) f d = q := by
    intro f
    induction f with
    | zero => intro d h1 h2; have := D_lt hk hq.lt; omega
    | succ f ih =>
      intro d h1 h2
      have hdN : d < N := by omega
      unfold lk
      by_cases e : d = D N (h k) q
      · have ha : adv N (h k) d = q := by rw [e, adv_D hk hq.lt]
        rw [ha]
        rcases hq.hit with e | e <;> simp [e]
      · obtain ⟨m1, m2⟩ := hq.miss (adv N (h k) d) (adv_lt hk (by omega)) (by rw [D_adv hk hdN]; omega)
        rw [m1, decide_eq_true m2]
        exact ih (d + 1) (by omega) (by omega)
  exact gen N 0 (by omega) (by omega)
/-- What a table keeps. -/
structure HInv (N : Nat) (h : Int → Nat) (T : Tb) : Prop where
  len : T.length = N
  path : ∀ q r, q < N → r < N → (sl T q).full = true → D N (h (sl T q).key) r < D N (h (sl T q).key) q → (sl T r).full = true
  apart : ∀ q r, q < N → r < N → (sl T q).full = true → (sl T r).full = true → (sl T q).key = (sl T r).key → q = r
def Room (N : Nat) (T : Tb) : Prop := ∃ q, q < N ∧ (sl T q).full = false
theorem hFind_room {N : Nat} {h : Int → Nat} {T : Tb} {k : Int} (hk : h k < N) (hr : Room N T) : IsFind N h T k (hFind N h T k) := by
  obtain ⟨q, q1, q2⟩ := hr
  obtain ⟨p, hp⟩ := find_ex (h := h) (k := k) _ q q1 (.inl q2) (Nat.le_refl _)
  rw [hFind_is hk hp]
  exact hp
/-- A key that is there is found. -/
theorem HInv.found {N : Nat} {h : Int → Nat} {T : Tb} (hi : HInv N h T) {k : Int} {q s : Nat} (hk : h k < N) (hf : IsFind N h T k q) (hs : s < N) (sf : (sl T s).full = true) (sk : (sl T s).key = k) : s = q := by
  rcases Nat.lt_trichotomy (D N (h k) s) (D N (h k) q) with hlt | heq | hgt
  · exact absurd sk (hf.miss s hs hlt).2
  · exact D_inj hk hs hf.lt heq
  · have hq := hi.path s q hs hf.lt sf (by rw [sk]; exact hgt)
    rcases hf.hit with e | e
    · rw [e] at hq; cases hq
    · exact hi.apart s q hs hf.lt sf hq (by rw [sk, e])
/-- To lay a key keeps what a table keeps. -/
theorem HInv.lay {N : Nat} {h : Int → Nat} {T : Tb} (hi : HInv N h T) {k n : Int} {q : Nat} (hk : h k < N) (hf : IsFind N h T k q) : HInv N h (T.set q ⟨k, n, true⟩) := by
  have hl : q < T.length := by rw [hi.len]; exact hf.lt
  refine ⟨by rw [List.length_set]; exact hi.len, ?_, ?_⟩
  · intro s r hs hr hsf hlt
    rw [sl_set hl] at hsf hlt ⊢
    by_cases hrq : r = q
    · rw [if_pos hrq]
    · rw [if_neg hrq]
      by_cases hsq : s = q
      · rw [if_pos hsq] at hlt
        rw [hsq] at hlt
        exact (hf.miss r hr hlt).1
      · rw [if_neg hsq] at hsf hlt
        exact hi.path s r hs hr hsf hlt
  · intro s r hs hr hsf hrf hkk
    rw [sl_set hl] at hsf hkk
    rw [sl_set hl] at hrf hkk
    by_cases hsq : s = q <;> by_cases hrq : r = q
    · rw [hsq, hrq]
    · rw [if_neg hrq] at hrf hkk
      rw [if_pos hsq] at hkk
      have := hi.found hk hf hr hrf hkk.symm
      omega
    · rw [if_neg hsq] at hsf hkk
      rw [if_pos hrq] at hkk
      have := hi.found hk hf hs hsf hkk
      omega
    · rw [if_neg hsq] at hsf hkk
      rw [if_neg hrq] at hrf hkk
      exact hi.apart s r hs hr hsf hrf hkk
end Go.Al
