/- Numbers by keys, in slots: of rows alone: how a key is looked for, and laid. Conditions: none. Numbers by keys, in slots: of rows alone: to take a key out: what stands behind is shifted back, or laid anew. Conditions: none. Numbers by keys, in slots: of rows alone: what acts make, and what a table keeps. Conditions: none. Numbers by keys, in slots, by the program: where a table lies, and how a key is looked for. Conditions: the numbers fit their kinds. Numbers by keys, in slots, by the program: what is told of them. Conditions: the numbers fit their kinds. -/
import Derived.Test.YtdebjhjnpomlmaaTy
import Derived.Test.YtdebjhjnpomlmaaMx2
section
set_option linter.unusedVariables false
set_option linter.unusedSimpArgs false
namespace Go.Al
structure Sl3 where
  key : Int
  n : Int
  full : Bool
  deriving DecidableEq, Inhabited
def z3 : Sl3 := ⟨0, 0, false⟩
abbrev Tb := List Sl3
def sl (T : Tb) (q : Nat) : Sl3 := T.getD q z3
/-- So far behind a place, round and round; and how far one is behind another. -/
def adv (N a d : Nat) : Nat := if a + d < N then a + d else a + d - N
def D (N a b : Nat) : Nat := if a ≤ b then b - a else b + N - a
theorem adv_lt {N a d : Nat} (ha : a < N) (hd : d ≤ N) : adv N a d < N := by unfold adv; split <;> omega
theorem D_lt {N a b : Nat} (ha : a < N) (hb : b < N) : D N a b < N := by unfold D; split <;> omega
theorem adv_D {N a b : Nat} (ha : a < N) (hb : b < N) : adv N a (D N a b) = b := by unfold adv D; split <;> split <;> omega
theorem D_adv {N a d : Nat} (ha : a < N) (hd : d < N) : D N a (adv N a d) = d := by unfold adv D; split <;> split <;> omega
theorem adv_zero {N a : Nat} (ha : a < N) : adv N a 0 = a := by unfold adv; split <;> omega
theorem adv_succ {N a d : Nat} (ha : a < N) (hd : d < N) : adv N a (d + 1) = adv N (adv N a d) 1 := by unfold adv; split <;> split <;> split <;> omega
theorem D_inj {N a b c : Nat} (ha : a < N) (hb : b < N) (hc : c < N) (h : D N a b = D N a c) : b = c := by rw [← adv_D ha hb, h, adv_D ha hc]
theorem sl_set {T : Tb} {q r : Nat} {s : Sl3} (hq : q < T.length) : sl (T.set q s) r = if r = q then s else sl T r := by
  unfold sl
  rw [List.getD_eq_getElem?_getD, List.getElem?_set]
  by_cases h : q = r
  · subst h; simp [hq]
  · have : ¬ r = q := fun e => h e.symm
    simp [h, this, List.getD_eq_getElem?_getD]
theorem sl_ext {T U : Tb} (hl : T.length = U.length) (h : ∀ r, r < T.length → sl T r = sl U r) : T = U := by
  apply List.ext_getElem hl
  intro i h1 h2
  have := h i h1
  unfold sl at this
  simpa [List.getD_eq_getElem?_getD, h1, h2] using this
theorem sl_get {T : Tb} {q : Nat} (hq : q < T.length) : T[q]? = some (sl T q) := by
  unfold sl
  simp [List.getD_eq_getElem?_getD, hq]
structure IsFind (N : Nat) (h : Int → Nat) (T : Tb) (k : Int) (q : Nat) : Prop where
  lt : q < N
  hit : (sl T q).full = false ∨ (sl T q).key = k
  miss : ∀ r, r < N → D N (h k) r < D N (h k) q → (sl T r).full = true ∧ (sl T r).key ≠ k
theorem IsFind.uniq {N : Nat} {h : Int → Nat} {T : Tb} {k : Int} {q q' : Nat} (hk : h k < N) (a : IsFind N h T k q) (b : IsFind N h T k q') : q = q' := by
  have no : ∀ {q q' : Nat}, IsFind N h T k q → IsFind N h T k q' → ¬ D N (h k) q < D N (h k) q' := by
    intro q q' a b hlt
    obtain ⟨m1, m2⟩ := b.miss q a.lt hlt
    rcases a.hit with e | e
    · rw [e] at m1; cases m1
    · exact m2 e
  have h1 := no a b
  have h2 := no b a
  exact D_inj hk a.lt b.lt (by omega)
theorem find_ex {N : Nat} {h : Int → Nat} {T : Tb} {k : Int} : ∀ (m q : Nat), q < N → ((sl T q).full = false ∨ (sl T q).key = k) → D N (h k) q ≤ m → ∃ q, IsFind N h T k q
  | 0, q, hq, hh, hm => ⟨q, hq, hh, fun r _ hr => by omega⟩
  | m + 1, q, hq, hh, hm => by
    by_cases hx : ∃ r, r < N ∧ D N (h k) r < D N (h k) q ∧ ((sl T r).full = false ∨ (sl T r).key = k)
    · obtain ⟨r, r1, r2, r3⟩ := hx
      exact find_ex m r r1 r3 (by omega)
    · refine ⟨q, hq, hh, fun r r1 r2 => ⟨?_, ?_⟩⟩
      · cases e : (sl T r).full with
        | true => rfl
        | false => exact absurd ⟨r, r1, r2, .inl e⟩ hx
      · exact fun e => hx ⟨r, r1, r2, .inr e⟩
def lk (N : Nat) (T : Tb) (k : Int) (a : Nat) : Nat → Nat → Nat
  | 0, d => adv N a d
  | f + 1, d => if (sl T (adv N a d)).full && decide ((sl T (adv N a d)).key ≠ k) then lk N T k a f (d + 1) else adv N a d
def hFind (N : Nat) (h : Int → Nat) (T : Tb) (k : Int) : Nat := lk N T k (h k) N 0
theorem hFind_is {N : Nat} {h : Int → Nat} {T : Tb} {k : Int} {q : Nat} (hk : h k < N) (hq : IsFind N h T k q) : hFind N h T k = q := by
  have gen : ∀ (f d : Nat), d + f = N → d ≤ D N (h k) q → lk N T k (h k) f d = q := by
    intro f
    induction f with
    | zero => intro d h1 h2; have := D_lt hk hq.lt; omega
    | succ f ih =>
      intro d h1 h2
      have hdN : d < N := by omega
      unfold lk
      by_cases e : d = D N (h k) q
      · have ha : adv N (h k) d = q := by rw [e, adv_D hk hq.lt]
        rw [ha]
        rcases hq.hit with e | e <;> simp [e]
      · obtain ⟨m1, m2⟩ := hq.miss (adv N (h k) d) (adv_lt hk (by omega)) (by rw [D_adv hk hdN]; omega)
        rw [m1, decide_eq_true m2]
        exact ih (d + 1) (by omega) (by omega)
  exact gen N 0 (by omega) (by omega)
/-- What a table keeps. -/
structure HInv (N : Nat) (h : Int → Nat) (T : Tb) : Prop where
  len : T.length = N
  path : ∀ q r, q < N → r < N → (sl T q).full = true → D N (h (sl T q).key) r < D N (h (sl T q).key) q → (sl T r).full = true
  apart : ∀ q r, q < N → r < N → (sl T q).full = true → (sl T r).full = true → (sl T q).key = (sl T r).key → q = r
def Room (N : Nat) (T : Tb) : Prop := ∃ q, q < N ∧ (sl T q).full = false
theorem hFind_room {N : Nat} {h : Int → Nat} {T : Tb} {k : Int} (hk : h k < N) (hr : Room N T) : IsFind N h T k (hFind N h T k) := by
  obtain ⟨q, q1, q2⟩ := hr
  obtain ⟨p, hp⟩ := find_ex (h := h) (k := k) _ q q1 (.inl q2) (Nat.le_refl _)
  rw [hFind_is hk hp]
  exact hp
/-- A key that is there is found. -/
theorem HInv.found {N : Nat} {h : Int → Nat} {T : Tb} (hi : HInv N h T) {k : Int} {q s : Nat} (hk : h k < N) (hf : IsFind N h T k q) (hs : s < N) (sf : (sl T s).full = true) (sk : (sl T s).key = k) : s = q := by
  rcases Nat.lt_trichotomy (D N (h k) s) (D N (h k) q) with hlt | heq | hgt
  · exact absurd sk (hf.miss s hs hlt).2
  · exact D_inj hk hs hf.lt heq
  · have hq := hi.path s q hs hf.lt sf (by rw [sk]; exact hgt)
    rcases hf.hit with e | e
    · rw [e] at hq; cases hq
    · exact hi.apart s q hs hf.lt sf hq (by rw [sk, e])
/-- To lay a key keeps what a table keeps. -/
theorem HInv.lay {N : Nat} {h : Int → Nat} {T : Tb} (hi : HInv N h T) {k n : Int} {q : Nat} (hk : h k < N) (hf : IsFind N h T k q) : HInv N h (T.set q ⟨k, n, true⟩) := by
  have hl : q < T.length := by rw [hi.len]; exact hf.lt
  refine ⟨by rw [List.length_set]; exact hi.len, ?_, ?_⟩
  · intro s r hs hr hsf hlt
    rw [sl_set hl] at hsf hlt ⊢
    by_cases hrq : r = q
    · rw [if_pos hrq]
    · rw [if_neg hrq]
      by_cases hsq : s = q
      · rw [if_pos hsq] at hlt
        rw [hsq] at hlt
        exact (hf.miss r hr hlt).1
      · rw [if_neg hsq] at hsf hlt
        exact hi.path s r hs hr hsf hlt
  · intro s r hs hr hsf hrf hkk
    rw [sl_set hl] at hsf hkk
    rw [sl_set hl] at hrf hkk
    by_cases hsq : s = q <;> by_cases hrq : r = q
    · rw [hsq, hrq]
    · rw [if_neg hrq] at hrf hkk
      rw [if_pos hsq] at hkk
      have := hi.found hk hf hr hrf hkk.symm
      omega
    · rw [if_neg hsq] at hsf hkk
      rw [if_pos hrq] at hkk
      have := hi.found hk hf hs hsf hkk
      omega
    · rw [if_neg hsq] at hsf hkk
      rw [if_neg hrq] at hrf hkk
      exact hi.apart s r hs hr hsf hrf hkk
end Go.Al
end
section
set_option linter.unusedVariables false
set_option linter.unusedSimpArgs false
set_option maxHeartbeats 1600000
namespace Go.Al
/-- Behind a place q there are c slots that are full; then comes one that isn't. -/
structure IsCl (N : Nat) (T : Tb) (q c : Nat) : Prop where
  lt : c + 1 < N
  on : ∀ j, 1 ≤ j → j ≤ c → (sl T (adv N q j)).full = true
  off : (sl T (adv N q (c + 1))).full = false
def clr (N q : Nat) (T : Tb) : Nat → Tb
  | 0 => T.set q z3
  | m + 1 => (clr N q T m).set (adv N q (m + 1)) z3
def lay1 (N : Nat) (h : Int → Nat) (U : Tb) (s : Sl3) : Tb := U.set (hFind N h U s.key) s
def rel (N : Nat) (h : Int → Nat) (T : Tb) (q c : Nat) : Nat → Tb
  | 0 => clr N q T c
  | j + 1 => lay1 N h (rel N h T q c j) (sl T (adv N q (j + 1)))
def shf (N : Nat) (h : Int → Nat) (T : Tb) (q : Nat) : Nat → Tb × Nat
  | 0 => (T, q)
  | j + 1 => if D N (h (sl T (adv N q (j + 1))).key) (adv N q (j + 1)) ≥ D N (shf N h T q j).2 (adv N q (j + 1)) then ((shf N h T q j).1.set (shf N h T q j).2 (sl T (adv N q (j + 1))), adv N q (j + 1)) else shf N h T q j
def cnt (T : Tb) : Nat := T.countP (·.full)
theorem clr_len (N q : Nat) (T : Tb) : ∀ m, (clr N q T m).length = T.length
  | 0 => by simp [clr]
  | m + 1 => by simp [clr, clr_len N q T m]
theorem clr_sl {N q : Nat} {T : Tb} (hl : T.length = N) (hq : q < N) : ∀ (m r : Nat), m < N → r < N → sl (clr N q T m) r = if D N q r ≤ m then z3 else sl T r
  | 0, r, hm, hr => by
    unfold clr
    rw [sl_set (by omega)]
    by_cases e : r = q
    · subst e; simp [D]
    · have : ¬ D N q r ≤ 0 := by
        intro h
        apply e
        have := adv_D hq hr
        rw [show D N q r = 0 by omega, adv_zero hq] at this
        exact this.symm
      rw [if_neg e, if_neg this]
  | m + 1, r, hm, hr => by
    unfold clr
    rw [sl_set (by rw [clr_len, hl]; exact adv_lt hq (by omega)), clr_sl hl hq m r (by omega) hr]
    by_cases e : r = adv N q (m + 1)
    · have : D N q r = m + 1 := by rw [e, D_adv hq (by omega)]
      rw [if_pos e, if_pos (by omega)]
    · have : ¬ D N q r = m + 1 := fun h => e (by rw [← h, adv_D hq hr])
      rw [if_neg e]
      by_cases h1 : D N q r ≤ m
      · rw [if_pos h1, if_pos (by omega)]
      · rw [if_neg h1, if_neg (by omega)]
theorem D_zero {N q r : Nat} (hq : q < N) (hr : r < N) : D N q r = 0 ↔ r = q := by
  unfold D
  split <;> omega
theorem D_cases (N a b : Nat) : (a ≤ b ∧ D N a b = b - a) ∨ (b < a ∧ D N a b = b + N - a) := by
  unfold D
  split
  · exact .inl ⟨by assumption, rfl⟩
  · exact .inr ⟨by omega, rfl⟩
theorem cyc1 {N H q s r E c : Nat} (hH : H < N) (hq : q < N) (hs : s < N) (hr : r < N) (hE : E < N) (hDe : D N q E = c + 1) (h1 : ¬ D N q s ≤ c) (h2 : D N q r ≤ c) (h3 : D N q s ≠ c + 1) (h4 : D N H r < D N H s) : D N H E < D N H s := by
  rcases D_cases N q E with ⟨x1, e1⟩ | ⟨x1, e1⟩ <;> rcases D_cases N q s with ⟨x2, e2⟩ | ⟨x2, e2⟩ <;> rcases D_cases N q r with ⟨x3, e3⟩ | ⟨x3, e3⟩ <;> rcases D_cases N H r with ⟨x4, e4⟩ | ⟨x4, e4⟩ <;> rcases D_cases N H s with ⟨x5, e5⟩ | ⟨x5, e5⟩ <;> rcases D_cases N H E with ⟨x6, e6⟩ | ⟨x6, e6⟩ <;> omega
theorem cyc2 {N H g A r : Nat} (hH : H < N) (hg : g < N) (hA : A < N) (hr : r < N) (hfit : D N H A ≥ D N g A) (hlt : D N H r < D N H g) : D N H r < D N H A := by
  rcases D_cases N H A with ⟨x1, e1⟩ | ⟨x1, e1⟩ <;> rcases D_cases N g A with ⟨x2, e2⟩ | ⟨x2, e2⟩ <;> rcases D_cases N H r with ⟨x3, e3⟩ | ⟨x3, e3⟩ <;> rcases D_cases N H g with ⟨x4, e4⟩ | ⟨x4, e4⟩ <;> omega
theorem cyc3 {N H g A : Nat} (hH : H < N) (hg : g < N) (hA : A < N) (hlt : D N H g < D N H A) : D N H A ≥ D N g A := by
  rcases D_cases N H A with ⟨x1, e1⟩ | ⟨x1, e1⟩ <;> rcases D_cases N g A with ⟨x2, e2⟩ | ⟨x2, e2⟩ <;> rcases D_cases N H g with ⟨x4, e4⟩ | ⟨x4, e4⟩ <;> omega
theorem cyc4 {N H q A r E c j : Nat} (hH : H < N) (hq : q < N) (hA : A < N) (hr : r < N) (hE : E < N) (hDe : D N q E = c + 1) (hDa : D N q A = j + 1) (h1 : j < D N q r) (h2 : D N q r ≤ c) (h3 : D N q r ≠ j + 1) (h4 : D N H r < D N H A) : D N H E < D N H A := by
  rcases D_cases N q E with ⟨x1, e1⟩ | ⟨x1, e1⟩ <;> rcases D_cases N q A with ⟨x2, e2⟩ | ⟨x2, e2⟩ <;> rcases D_cases N q r with ⟨x3, e3⟩ | ⟨x3, e3⟩ <;> rcases D_cases N H r with ⟨x4, e4⟩ | ⟨x4, e4⟩ <;> rcases D_cases N H A with ⟨x5, e5⟩ | ⟨x5, e5⟩ <;> rcases D_cases N H E with ⟨x6, e6⟩ | ⟨x6, e6⟩ <;> omega
/-- What holds when j of those behind the hole are laid anew, or shifted. -/
structure Half (N : Nat) (h : Int → Nat) (T : Tb) (q c j : Nat) : Prop where
  hole : (shf N h T q j).2 < N
  back : D N q (shf N h T q j).2 ≤ j
  slen : (shf N h T q j).1.length = N
  rest : ∀ r, r < N → j < D N q r → sl (shf N h T q j).1 r = sl T r
  full : ∀ r, r < N → D N q r ≤ j → r ≠ (shf N h T q j).2 → (sl (shf N h T q j).1 r).full = true
  same : ∀ r, r < N → sl (rel N h T q c j) r = if r = (shf N h T q j).2 then z3 else if j < D N q r ∧ D N q r ≤ c then z3 else sl (shf N h T q j).1 r
  inv : HInv N h (rel N h T q c j)
  src : ∀ r, r < N → (sl (rel N h T q c j) r).full = true → ∃ r', r' < N ∧ sl (rel N h T q c j) r = sl T r' ∧ D N q r' ≠ 0 ∧ ¬ (j < D N q r' ∧ D N q r' ≤ c)
  dst : ∀ r', r' < N → (sl T r').full = true → D N q r' ≠ 0 → ¬ (j < D N q r' ∧ D N q r' ≤ c) → ∃ r, r < N ∧ sl (rel N h T q c j) r = sl T r'
theorem half_zero {N : Nat} {h : Int → Nat} {T : Tb} {q c : Nat} (hh : ∀ k, h k < N) (hi : HInv N h T) (hq : q < N) (hc : IsCl N T q c) : Half N h T q c 0 := by
  have hclr := clr_sl (q := q) hi.len hq c
  have hlt := hc.lt
  have he : adv N q (c + 1) < N := adv_lt hq (by omega)
  have hDe : D N q (adv N q (c + 1)) = c + 1 := D_adv hq (by omega)
  have hoff := hc.off
  refine ⟨hq, by show D N q q ≤ 0; simp [D], hi.len, fun r hr _ => rfl, ?_, ?_, ?_, ?_, ?_⟩
  · intro r hr h0 hne
    exact absurd ((D_zero hq hr).1 (by omega)) hne
  · intro r hr
    show sl (clr N q T c) r = if r = q then z3 else if 0 < D N q r ∧ D N q r ≤ c then z3 else sl T r
    rw [hclr r (by omega) hr]
    by_cases e : r = q
    · have := (D_zero hq hr).2 e
      rw [if_pos e, if_pos (by omega)]
    · have : D N q r ≠ 0 := fun h => e ((D_zero hq hr).1 h)
      rw [if_neg e]
      by_cases h1 : D N q r ≤ c
      · rw [if_pos h1, if_pos (by omega)]
      · rw [if_neg h1, if_neg (by omega)]
  · show HInv N h (clr N q T c)
    refine ⟨by rw [clr_len]; exact hi.len, ?_, ?_⟩
    · intro s r hs hr hsf hlt2
      rw [hclr s (by omega) hs] at hsf hlt2
      rw [hclr r (by omega) hr]
      by_cases h1 : D N q s ≤ c
      · rw [if_pos h1] at hsf; cases hsf
      · rw [if_neg h1] at hsf hlt2
        have hrf := hi.path s r hs hr hsf hlt2
        by_cases h2 : D N q r ≤ c
        · exfalso
          have hse : s ≠ adv N q (c + 1) := by
            rintro e
            rw [e, hoff] at hsf; cases hsf
          have hDs : D N q s ≠ c + 1 := fun e => hse (by rw [← e, adv_D hq hs])
          have hH := hh (sl T s).key
          have hpath := hi.path s (adv N q (c + 1)) hs he hsf (cyc1 hH hq hs hr he hDe h1 h2 hDs hlt2)
          rw [hoff] at hpath; cases hpath
        · rw [if_neg h2]; exact hrf
    · intro s r hs hr hsf hrf hkk
      rw [hclr s (by omega) hs] at hsf hkk
      rw [hclr r (by omega) hr] at hrf hkk
      by_cases h1 : D N q s ≤ c
      · rw [if_pos h1] at hsf; cases hsf
      · by_cases h2 : D N q r ≤ c
        · rw [if_pos h2] at hrf; cases hrf
        · rw [if_neg h1] at hsf hkk
          rw [if_neg h2] at hrf hkk
          exact hi.apart s r hs hr hsf hrf hkk
  · intro r hr hf
    have hf : (sl (clr N q T c) r).full = true := hf
    show ∃ r', r' < N ∧ sl (clr N q T c) r = sl T r' ∧ _
    rw [hclr r (by omega) hr] at hf ⊢
    by_cases h1 : D N q r ≤ c
    · rw [if_pos h1] at hf; cases hf
    · rw [if_neg h1]
      exact ⟨r, hr, rfl, by omega, by omega⟩
  · intro r hr hf h0 hn
    refine ⟨r, hr, ?_⟩
    show sl (clr N q T c) r = _
    rw [hclr r (by omega) hr, if_neg (by omega)]
theorem half_succ {N : Nat} {h : Int → Nat} {T : Tb} {q c j : Nat} (hh : ∀ k, h k < N) (hi : HInv N h T) (hq : q < N) (hc : IsCl N T q c) (hj : j + 1 ≤ c) (hf : Half N h T q c j) : Half N h T q c (j + 1) := by
  have hlt := hc.lt
  have he : adv N q (c + 1) < N := adv_lt hq (by omega)
  have hDe : D N q (adv N q (c + 1)) = c + 1 := D_adv hq (by omega)
  have hoff := hc.off
  have hat : adv N q (j + 1) < N := adv_lt hq (by omega)
  have hDat : D N q (adv N q (j + 1)) = j + 1 := D_adv hq (by omega)
  have hxf := hc.on (j + 1) (by omega) hj
  obtain ⟨f1, f2, f3, f4, f5, f6, f7, f8, f9⟩ := hf
  have hsuc : shf N h T q (j + 1) = if D N (h (sl T (adv N q (j + 1))).key) (adv N q (j + 1)) ≥ D N (shf N h T q j).2 (adv N q (j + 1)) then ((shf N h T q j).1.set (shf N h T q j).2 (sl T (adv N q (j + 1))), adv N q (j + 1)) else shf N h T q j := rfl
  have hrel : rel N h T q c (j + 1) = lay1 N h (rel N h T q c j) (sl T (adv N q (j + 1))) := rfl
  generalize shf N h T q j = SH at *
  obtain ⟨S, g⟩ := SH
  simp only at f1 f2 f3 f4 f5 f6 f7 f8 f9 hsuc
  generalize rel N h T q c j = R at *
  have hRl := f7.len
  have hH := hh (sl T (adv N q (j + 1))).key
  have hpath := fun r hr hd => hi.path (adv N q (j + 1)) r hat hr hxf hd
  have hgat : g ≠ adv N q (j + 1) := by rintro rfl; omega
  have hxe : sl T (adv N q (j + 1)) = ⟨(sl T (adv N q (j + 1))).key, (sl T (adv N q (j + 1))).n, true⟩ := by
    rw [← hxf]
  -- the keys that are there are other ones
  have hkeys : ∀ r, r < N → (sl R r).full = true → (sl R r).key ≠ (sl T (adv N q (j + 1))).key := by
    intro r hr hrf hk
    obtain ⟨r', h1, h2, h3, h4⟩ := f8 r hr hrf
    rw [h2] at hk hrf
    have := hi.apart r' (adv N q (j + 1)) h1 hat hrf hxf hk
    rw [this, hDat] at h4
    omega
  -- on the way to the place
  have hway : ∀ p r, p < N → r < N → (p = g ∨ p = adv N q (j + 1)) → (p = g → D N (h (sl T (adv N q (j + 1))).key) (adv N q (j + 1)) ≥ D N g (adv N q (j + 1))) → (p = adv N q (j + 1) → ¬ D N (h (sl T (adv N q (j + 1))).key) (adv N q (j + 1)) ≥ D N g (adv N q (j + 1))) →
      D N (h (sl T (adv N q (j + 1))).key) r < D N (h (sl T (adv N q (j + 1))).key) p → (sl R r).full = true := by
    intro p r hp hr hpg hfit hnfit hlt2
    have hlt3 : D N (h (sl T (adv N q (j + 1))).key) r < D N (h (sl T (adv N q (j + 1))).key) (adv N q (j + 1)) := by
      rcases hpg with rfl | rfl
      · exact cyc2 hH hp hat hr (hfit rfl) hlt2
      · exact hlt2
    have hrf := hpath r hr hlt3
    have hrg : r ≠ g := by
      rintro rfl
      rcases hpg with rfl | rfl
      · omega
      · exact hnfit rfl (cyc3 hH hr hat hlt2)
    have hrc : ¬ (j < D N q r ∧ D N q r ≤ c) := by
      rintro ⟨g1, g2⟩
      have hra : r ≠ adv N q (j + 1) := by rintro rfl; omega
      have hDr : D N q r ≠ j + 1 := fun e => hra (by rw [← e, adv_D hq hr])
      have hef := hpath (adv N q (c + 1)) he (cyc4 hH hq hat hr he hDe hDat g1 g2 hDr hlt3)
      rw [hoff] at hef; cases hef
    rw [f6 r hr, if_neg hrg, if_neg hrc]
    by_cases h1 : D N q r ≤ j
    · exact f5 r hr h1 hrg
    · rw [f4 r hr (by omega)]; exact hrf
  by_cases hfit : D N (h (sl T (adv N q (j + 1))).key) (adv N q (j + 1)) ≥ D N g (adv N q (j + 1))
  · -- shifted
    rw [if_pos hfit] at hsuc
    have hfind : IsFind N h R (sl T (adv N q (j + 1))).key g := by
      refine ⟨f1, .inl (by rw [f6 g f1, if_pos rfl]; rfl), fun r hr hd => ?_⟩
      have := hway g r f1 hr (.inl rfl) (fun _ => hfit) (fun e => absurd e hgat) hd
      exact ⟨this, hkeys r hr this⟩
    have hR2 : rel N h T q c (j + 1) = R.set g (sl T (adv N q (j + 1))) := by rw [hrel]; unfold lay1; rw [hFind_is hH hfind]
    have hinv := f7.lay (n := (sl T (adv N q (j + 1))).n) hH hfind
    rw [← hxe] at hinv
    generalize hX : sl T (adv N q (j + 1)) = X at *
    generalize hA : adv N q (j + 1) = A at *
    have hslR : ∀ r, sl (R.set g X) r = if r = g then X else sl R r := fun r => sl_set (by rw [hRl]; exact f1)
    have hslS : ∀ r, sl (S.set g X) r = if r = g then X else sl S r := fun r => sl_set (by rw [f3]; exact f1)
    constructor <;> (try rw [hsuc]) <;> (try rw [hR2])
    · exact hat
    · show D N q A ≤ j + 1; omega
    · show (S.set g X).length = N; rw [List.length_set]; exact f3
    · intro r hr hd
      show sl (S.set g X) r = _
      rw [hslS, if_neg (by rintro rfl; omega)]
      exact f4 r hr (by omega)
    · intro r hr hd hne
      show (sl (S.set g X) r).full = true
      have hne : r ≠ A := hne
      rw [hslS]
      by_cases e : r = g
      · rw [if_pos e]; exact hxf
      · rw [if_neg e]
        have : D N q r ≠ j + 1 := fun e2 => hne (by rw [← hA, ← e2, adv_D hq hr])
        exact f5 r hr (by omega) e
    · intro r hr
      show sl (R.set g X) r = if r = A then z3 else if j + 1 < D N q r ∧ D N q r ≤ c then z3 else sl (S.set g X) r
      rw [hslR, hslS]
      by_cases e : r = g
      · have : ¬ r = A := by rw [e]; exact hgat
        have h2 : ¬ (j + 1 < D N q r ∧ D N q r ≤ c) := by rw [e]; omega
        rw [if_pos e, if_neg this, if_neg h2]
        simp [e]
      · rw [if_neg e, f6 r hr, if_neg e]
        by_cases e2 : r = A
        · have : j < D N q r ∧ D N q r ≤ c := by rw [e2]; omega
          rw [if_pos this, if_pos e2]
        · have h3 : D N q r ≠ j + 1 := fun e3 => e2 (by rw [← hA, ← e3, adv_D hq hr])
          rw [if_neg e2]
          by_cases h4 : j < D N q r ∧ D N q r ≤ c
          · rw [if_pos h4, if_pos (by omega)]
          · rw [if_neg h4, if_neg (by omega), if_neg e]
    · exact hinv
    · intro r hr hrf
      rw [hslR] at hrf ⊢
      by_cases e : r = g
      · rw [if_pos e]
        exact ⟨A, hat, hX.symm, by omega, by omega⟩
      · rw [if_neg e] at hrf ⊢
        obtain ⟨r', h1, h2, h3, h4⟩ := f8 r hr hrf
        exact ⟨r', h1, h2, h3, by omega⟩
    · intro r' hr' hrf h0 hn
      by_cases e : r' = A
      · exact ⟨g, f1, by rw [hslR, if_pos rfl, e, hX]⟩
      · have h3 : D N q r' ≠ j + 1 := fun e3 => e (by rw [← hA, ← e3, adv_D hq hr'])
        obtain ⟨r, h1, h2⟩ := f9 r' hr' hrf h0 (by omega)
        refine ⟨r, h1, ?_⟩
        have : r ≠ g := by
          rintro rfl
          rw [f6 r f1, if_pos rfl] at h2
          rw [← h2] at hrf; cases hrf
        rw [hslR, if_neg this]; exact h2
  · -- it stays
    rw [if_neg hfit] at hsuc
    have hfind : IsFind N h R (sl T (adv N q (j + 1))).key (adv N q (j + 1)) := by
      refine ⟨hat, .inl ?_, fun r hr hd => ?_⟩
      · rw [f6 _ hat, if_neg (Ne.symm hgat), if_pos (by omega)]; rfl
      · have := hway (adv N q (j + 1)) r hat hr (.inr rfl) (fun e => absurd e.symm hgat) (fun _ => hfit) hd
        exact ⟨this, hkeys r hr this⟩
    have hR2 : rel N h T q c (j + 1) = R.set (adv N q (j + 1)) (sl T (adv N q (j + 1))) := by rw [hrel]; unfold lay1; rw [hFind_is hH hfind]
    have hinv := f7.lay (n := (sl T (adv N q (j + 1))).n) hH hfind
    rw [← hxe] at hinv
    have hSA := f4 _ hat (by omega)
    generalize hX : sl T (adv N q (j + 1)) = X at *
    generalize hA : adv N q (j + 1) = A at *
    have hslR : ∀ r, sl (R.set A X) r = if r = A then X else sl R r := fun r => sl_set (by rw [hRl]; exact hat)
    constructor <;> (try rw [hsuc]) <;> (try rw [hR2])
    · exact f1
    · show D N q g ≤ j + 1; omega
    · exact f3
    · intro r hr hd
      exact f4 r hr (by omega)
    · intro r hr hd hne
      show (sl S r).full = true
      have hne : r ≠ g := hne
      by_cases e : r = A
      · rw [e, hSA]; exact hxf
      · have : D N q r ≠ j + 1 := fun e2 => e (by rw [← hA, ← e2, adv_D hq hr])
        exact f5 r hr (by omega) hne
    · intro r hr
      show sl (R.set A X) r = if r = g then z3 else if j + 1 < D N q r ∧ D N q r ≤ c then z3 else sl S r
      rw [hslR]
      by_cases e : r = A
      · have h1 : ¬ r = g := by rw [e]; exact Ne.symm hgat
        have h2 : ¬ (j + 1 < D N q r ∧ D N q r ≤ c) := by rw [e]; omega
        rw [if_pos e, if_neg h1, if_neg h2, e, hSA]
      · rw [if_neg e, f6 r hr]
        have h3 : D N q r ≠ j + 1 := fun e3 => e (by rw [← hA, ← e3, adv_D hq hr])
        by_cases e2 : r = g
        · rw [if_pos e2, if_pos e2]
        · rw [if_neg e2, if_neg e2]
          by_cases h4 : j < D N q r ∧ D N q r ≤ c
          · rw [if_pos h4, if_pos (by omega)]
          · rw [if_neg h4, if_neg (by omega)]
    · exact hinv
    · intro r hr hrf
      rw [hslR] at hrf ⊢
      by_cases e : r = A
      · rw [if_pos e]
        exact ⟨A, hat, hX.symm, by omega, by omega⟩
      · rw [if_neg e] at hrf ⊢
        obtain ⟨r', h1, h2, h3, h4⟩ := f8 r hr hrf
        exact ⟨r', h1, h2, h3, by omega⟩
    · intro r' hr' hrf h0 hn
      by_cases e : r' = A
      · exact ⟨A, hat, by rw [hslR, if_pos rfl, e, hX]⟩
      · have h3 : D N q r' ≠ j + 1 := fun e3 => e (by rw [← hA, ← e3, adv_D hq hr'])
        obtain ⟨r, h1, h2⟩ := f9 r' hr' hrf h0 (by omega)
        refine ⟨r, h1, ?_⟩
        have : r ≠ A := by
          rintro rfl
          rw [f6 r hat, if_neg (Ne.symm hgat), if_pos (by omega)] at h2
          rw [← h2] at hrf; cases hrf
        rw [hslR, if_neg this]; exact h2
theorem half_all {N : Nat} {h : Int → Nat} {T : Tb} {q c : Nat} (hh : ∀ k, h k < N) (hi : HInv N h T) (hq : q < N) (hc : IsCl N T q c) : ∀ j, j ≤ c → Half N h T q c j
  | 0, _ => half_zero hh hi hq hc
  | j + 1, hj => half_succ hh hi hq hc hj (half_all hh hi hq hc j (by omega))
/-- To shift back is to lay anew. -/
theorem shift_is {N : Nat} {h : Int → Nat} {T : Tb} {q c : Nat} (hh : ∀ k, h k < N) (hi : HInv N h T) (hq : q < N) (hc : IsCl N T q c) : (shf N h T q c).1.set (shf N h T q c).2 z3 = rel N h T q c c := by
  obtain ⟨f1, f2, f3, f4, f5, f6, f7, f8, f9⟩ := half_all hh hi hq hc c (Nat.le_refl _)
  refine sl_ext (by rw [List.length_set, f3, f7.len]) fun r hr => ?_
  rw [List.length_set, f3] at hr
  rw [sl_set (by rw [f3]; exact f1), f6 r hr]
  by_cases e : r = (shf N h T q c).2
  · rw [if_pos e, if_pos e]
  · rw [if_neg e, if_neg e, if_neg (by omega)]
end Go.Al
end
section
set_option linter.unusedVariables false
set_option linter.unusedSimpArgs false
set_option maxHeartbeats 1600000
namespace Go.Al
/-- A key's home in a table of so many slots. -/
def hm (N : Nat) (k : Int) : Nat := (homeF k (N : Int)).toNat % N
theorem hm_lt {N : Nat} (h : 0 < N) (k : Int) : hm N k < N := Nat.mod_lt _ h
def hF (T : Tb) (k : Int) : Nat := hFind T.length (hm T.length) T k
def rehash (T : Tb) : Tb := T.foldl (fun U s => if s.full then lay1 (2 * T.length) (hm (2 * T.length)) U s else U) (List.replicate (2 * T.length) z3)
def big (T : Tb) : Tb := if 4 * cnt T + 4 > 3 * T.length then rehash T else T
def putT (T : Tb) (k : Int) : Tb := if (sl T (hF T k)).full then T else big T
def hPut (T : Tb) (k n : Int) : Tb := (putT T k).set (hF (putT T k) k) ⟨k, n, true⟩
def cl (N : Nat) (T : Tb) (q : Nat) : Nat → Nat → Nat
  | 0, j => j
  | f + 1, j => if (sl T (adv N q (j + 1))).full then cl N T q f (j + 1) else j
def clen (T : Tb) (q : Nat) : Nat := cl T.length T q T.length 0
def hDel (T : Tb) (k : Int) : Tb × Bool := if (sl T (hF T k)).full then (rel T.length (hm T.length) T (hF T k) (clen T (hF T k)) (clen T (hF T k)), true) else (T, false)
theorem cnt_set {T : Tb} {q : Nat} {s : Sl3} (hq : q < T.length) : cnt (T.set q s) + (if (sl T q).full then 1 else 0) = cnt T + if s.full then 1 else 0 := by
  unfold cnt
  rw [List.countP_set hq]
  have hg : sl T q = T[q] := by unfold sl; simp [List.getD_eq_getElem?_getD, hq]
  rw [hg]
  by_cases h : T[q].full = true
  · have hp : 0 < T.countP (·.full) := List.countP_pos_iff.2 ⟨T[q], List.getElem_mem hq, h⟩
    simp only [h, if_true]
    omega
  · simp only [h, if_false, Bool.false_eq_true]
    omega
theorem cnt_le (T : Tb) : cnt T ≤ T.length := List.countP_le_length
theorem room_of {T : Tb} (h : cnt T < T.length) : Room T.length T := by
  apply Classical.byContradiction
  intro hn
  have : cnt T = T.length := by
    unfold cnt
    rw [List.countP_eq_length]
    intro s hs
    obtain ⟨q, hq, rfl⟩ := List.mem_iff_getElem.1 hs
    cases e : T[q].full with
    | true => rfl
    | false =>
      exfalso
      apply hn
      refine ⟨q, hq, ?_⟩
      unfold sl
      simp [List.getD_eq_getElem?_getD, hq, e]
  omega
/-- A slot that is there. -/
def Mem (T : Tb) (s : Sl3) : Prop := s.full = true ∧ ∃ r, r < T.length ∧ sl T r = s
theorem lay_new {N : Nat} {h : Int → Nat} {U : Tb} {s : Sl3} (hh : ∀ k, h k < N) (hi : HInv N h U) (hr : Room N U) (hs : s.full = true) (hk : ∀ t, Mem U t → t.key ≠ s.key) :
    HInv N h (lay1 N h U s) ∧ cnt (lay1 N h U s) = cnt U + 1 ∧ (lay1 N h U s).length = N ∧ ∀ t, Mem (lay1 N h U s) t ↔ t = s ∨ Mem U t := by
  have hf := hFind_room (k := s.key) (hh _) hr
  have hl := hi.len
  unfold lay1
  generalize hFind N h U s.key = q at *
  have hqf : (sl U q).full = false := by
    cases e : (sl U q).full with
    | false => rfl
    | true =>
      rcases hf.hit with e2 | e2
      · rw [e] at e2; cases e2
      · exact absurd e2 (hk _ ⟨e, q, by rw [hl]; exact hf.lt, rfl⟩)
  have hse : s = ⟨s.key, s.n, true⟩ := by rw [← hs]
  refine ⟨?_, ?_, by rw [List.length_set]; exact hl, ?_⟩
  · rw [hse]; exact hi.lay (hh _) hf
  · have := cnt_set (T := U) (q := q) (s := s) (by rw [hl]; exact hf.lt)
    simp only [hqf, hs] at this
    simpa using this
  · intro t
    constructor
    · rintro ⟨h1, r, h2, h3⟩
      rw [List.length_set] at h2
      rw [sl_set (by rw [hl]; exact hf.lt)] at h3
      by_cases e : r = q
      · rw [if_pos e] at h3; exact .inl h3.symm
      · rw [if_neg e] at h3; exact .inr ⟨h1, r, h2, h3⟩
    · rintro (rfl | ⟨h1, r, h2, h3⟩)
      · refine ⟨hs, q, by rw [List.length_set, hl]; exact hf.lt, ?_⟩
        rw [sl_set (by rw [hl]; exact hf.lt), if_pos rfl]
      · refine ⟨h1, r, by rw [List.length_set]; exact h2, ?_⟩
        have : r ≠ q := by rintro rfl; rw [h3] at hqf; rw [hqf] at h1; cases h1
        rw [sl_set (by rw [hl]; exact hf.lt), if_neg this]
        exact h3
theorem sl_rep (N r : Nat) : sl (List.replicate N z3) r = z3 := by
  unfold sl
  by_cases h : r < N
  · simp [List.getD_eq_getElem?_getD, h]
  · simp [List.getD_eq_getElem?_getD, List.getElem?_replicate, h]
theorem empty_inv (N : Nat) (h : Int → Nat) : HInv N h (List.replicate N z3) := by
  refine ⟨by simp, ?_, ?_⟩
  · intro q r _ _ hf; rw [sl_rep] at hf; cases hf
  · intro q r _ _ hf; rw [sl_rep] at hf; cases hf
theorem empty_cnt (N : Nat) : cnt (List.replicate N z3) = 0 := by
  unfold cnt
  rw [List.countP_eq_zero]
  intro s hs
  rw [List.eq_of_mem_replicate hs]
  simp [z3]
theorem empty_mem (N : Nat) (t : Sl3) : ¬ Mem (List.replicate N z3) t := by
  rintro ⟨h1, r, h2, h3⟩
  rw [sl_rep] at h3
  rw [← h3] at h1; cases h1
/-- Laid one by one. -/
def relay (N : Nat) (h : Int → Nat) (U : Tb) (l : List Sl3) : Tb := l.foldl (fun U s => if s.full then lay1 N h U s else U) U
theorem relay_all {N : Nat} {h : Int → Nat} (hh : ∀ k, h k < N) : ∀ (l : List Sl3) (U : Tb), HInv N h U → cnt U + l.countP (·.full) < N → (∀ t, Mem U t → ∀ s ∈ l, s.full = true → t.key ≠ s.key) → (l.Pairwise fun a b => a.full = true → b.full = true → a.key ≠ b.key) →
    HInv N h (relay N h U l) ∧ cnt (relay N h U l) = cnt U + l.countP (·.full) ∧ ∀ t, Mem (relay N h U l) t ↔ Mem U t ∨ (t.full = true ∧ t ∈ l)
  | [], U, hi, hc, hk, hp => ⟨hi, by simp [relay], fun t => by simp [relay]⟩
  | s :: l, U, hi, hc, hk, hp => by
    rw [List.pairwise_cons] at hp
    have hstep : relay N h U (s :: l) = relay N h (if s.full then lay1 N h U s else U) l := rfl
    rw [hstep]
    by_cases hs : s.full = true
    · have hcs : (s :: l).countP (·.full) = l.countP (·.full) + 1 := by simp [List.countP_cons, hs]
      rw [hcs] at hc ⊢
      have hlen := hi.len
      obtain ⟨g1, g2, g3, g4⟩ := lay_new hh hi (by have := room_of (T := U) (by omega); rwa [hlen] at this) hs (fun t ht => hk t ht s (by simp) hs)
      rw [if_pos hs]
      obtain ⟨q1, q2, q3⟩ := relay_all hh l (lay1 N h U s) g1 (by omega) (by
        intro t ht s' hs' hf'
        rcases (g4 t).1 ht with rfl | ht
        · exact hp.1 s' hs' hs hf'
        · exact hk t ht s' (by simp [hs']) hf') hp.2
      refine ⟨q1, by omega, fun t => ?_⟩
      rw [q3 t, g4 t]
      constructor
      · rintro ((rfl | h1) | ⟨h1, h2⟩)
        · exact .inr ⟨hs, by simp⟩
        · exact .inl h1
        · exact .inr ⟨h1, by simp [h2]⟩
      · rintro (h1 | ⟨h1, h2⟩)
        · exact .inl (.inr h1)
        · rcases List.mem_cons.1 h2 with rfl | h2
          · exact .inl (.inl rfl)
          · exact .inr ⟨h1, h2⟩
    · have hcs : (s :: l).countP (·.full) = l.countP (·.full) := by simp [List.countP_cons, hs]
      rw [hcs] at hc ⊢
      rw [if_neg hs]
      obtain ⟨q1, q2, q3⟩ := relay_all hh l U hi hc (fun t ht s' hs' hf' => hk t ht s' (by simp [hs']) hf') hp.2
      refine ⟨q1, q2, fun t => ?_⟩
      rw [q3 t]
      constructor
      · rintro (h1 | ⟨h1, h2⟩)
        · exact .inl h1
        · exact .inr ⟨h1, by simp [h2]⟩
      · rintro (h1 | ⟨h1, h2⟩)
        · exact .inl h1
        · rcases List.mem_cons.1 h2 with rfl | h2
          · exact absurd h1 hs
          · exact .inr ⟨h1, h2⟩
theorem mem_iff {T : Tb} {t : Sl3} : Mem T t ↔ t.full = true ∧ t ∈ T := by
  constructor
  · rintro ⟨h1, r, h2, rfl⟩
    refine ⟨h1, ?_⟩
    have := sl_get h2
    exact List.mem_of_getElem? this
  · rintro ⟨h1, h2⟩
    obtain ⟨r, hr, rfl⟩ := List.mem_iff_getElem.1 h2
    refine ⟨h1, r, hr, ?_⟩
    unfold sl
    simp [List.getD_eq_getElem?_getD, hr]
theorem inv_pair {N : Nat} {h : Int → Nat} {T : Tb} (hi : HInv N h T) : T.Pairwise fun a b => a.full = true → b.full = true → a.key ≠ b.key := by
  rw [List.pairwise_iff_getElem]
  intro i j h1 h2 hij f1 f2 he
  have hl := hi.len
  have e1 : sl T i = T[i] := by unfold sl; simp [List.getD_eq_getElem?_getD, h1]
  have e2 : sl T j = T[j] := by unfold sl; simp [List.getD_eq_getElem?_getD, h2]
  have := hi.apart i j (by omega) (by omega) (by rw [e1]; exact f1) (by rw [e2]; exact f2) (by rw [e1, e2]; exact he)
  omega
theorem rehash_all {T : Tb} (hl : 0 < T.length) {h : Int → Nat} (hi : HInv T.length h T) :
    HInv (2 * T.length) (hm (2 * T.length)) (rehash T) ∧ cnt (rehash T) = cnt T ∧ ∀ t, Mem (rehash T) t ↔ Mem T t := by
  have hc := cnt_le T
  obtain ⟨q1, q2, q3⟩ := relay_all (N := 2 * T.length) (h := hm (2 * T.length)) (fun k => hm_lt (by omega) k) T (List.replicate (2 * T.length) z3) (empty_inv _ _) (by rw [empty_cnt]; show 0 + cnt T < _; omega) (fun t ht => absurd ht (empty_mem _ _)) (inv_pair hi)
  refine ⟨q1, by rw [empty_cnt, Nat.zero_add] at q2; exact q2, fun t => ?_⟩
  rw [mem_iff (T := T)]
  refine (q3 t).trans ⟨fun h => ?_, fun h => .inr h⟩
  rcases h with h | h
  · exact absurd h (empty_mem _ _)
  · exact h
/-- What a table keeps, that acts made. -/
structure HOk (T : Tb) : Prop where
  pow : ∃ p, 3 ≤ p ∧ p ≤ 20 ∧ T.length = 2 ^ p
  inv : HInv T.length (hm T.length) T
  load : 4 * cnt T ≤ 3 * T.length
  keys : ∀ t, Mem T t → 0 ≤ t.key ∧ t.key < 18446744073709551616
theorem HOk.len {T : Tb} (h : HOk T) : 8 ≤ T.length ∧ T.length ≤ 1048576 := by
  obtain ⟨p, h1, h2, h3⟩ := h.pow
  rw [h3]
  have a1 : 2 ^ 3 ≤ 2 ^ p := Nat.pow_le_pow_right (by omega) h1
  have a2 : 2 ^ p ≤ 2 ^ 20 := Nat.pow_le_pow_right (by omega) h2
  exact ⟨by simpa using a1, by simpa using a2⟩
theorem HOk.room {T : Tb} (h : HOk T) : Room T.length T := by
  have := h.len
  have := h.load
  exact room_of (by omega)
theorem HOk.find {T : Tb} (h : HOk T) (k : Int) : IsFind T.length (hm T.length) T k (hF T k) := hFind_room (hm_lt (by have := h.len; omega) k) h.room
/-- A key is there just if its slot is full. -/
theorem HOk.there {T : Tb} (h : HOk T) (k : Int) : ((sl T (hF T k)).full = true → Mem T (sl T (hF T k)) ∧ (sl T (hF T k)).key = k) ∧ ((sl T (hF T k)).full = false → ∀ t, Mem T t → t.key ≠ k) := by
  have hf := h.find k
  refine ⟨fun e => ⟨⟨e, _, hf.lt, rfl⟩, ?_⟩, fun e t ht hk => ?_⟩
  · rcases hf.hit with e2 | e2
    · rw [e] at e2; cases e2
    · exact e2
  · obtain ⟨h1, r, h2, h3⟩ := ht
    have := h.inv.found (hm_lt (by have := h.len; omega) k) hf h2 (by rw [h3]; exact h1) (by rw [h3]; exact hk)
    rw [this] at h3
    rw [h3, h1] at e; cases e
theorem putT_all {T : Tb} (h : HOk T) (hs : T.length ≤ 524288) (k : Int) : HOk (putT T k) ∧ (∀ t, Mem (putT T k) t ↔ Mem T t) ∧ cnt (putT T k) = cnt T ∧ ((sl T (hF T k)).full = false → 4 * cnt T + 4 ≤ 3 * (putT T k).length) ∧ ((putT T k).length = T.length ∨ ((putT T k).length = 2 * T.length ∧ 4 * cnt T + 4 > 3 * T.length ∧ (sl T (hF T k)).full = false)) := by
  have hl := h.len
  unfold putT
  by_cases hf : (sl T (hF T k)).full = true
  · rw [if_pos hf]
    exact ⟨h, fun t => Iff.rfl, rfl, fun e => (by rw [hf] at e; cases e), .inl rfl⟩
  · rw [if_neg hf]
    unfold big
    by_cases hb : 4 * cnt T + 4 > 3 * T.length
    · rw [if_pos hb]
      obtain ⟨q1, q2, q3⟩ := rehash_all (by omega) h.inv
      obtain ⟨p, p1, p2, p3⟩ := h.pow
      have hlr := q1.len
      have hload := h.load
      refine ⟨⟨⟨p + 1, by omega, ?_, by rw [hlr, p3, Nat.pow_succ]; omega⟩, by rw [hlr]; exact q1, by rw [q2, hlr]; omega, fun t ht => h.keys t ((q3 t).1 ht)⟩, q3, q2, fun _ => by rw [hlr]; omega, .inr ⟨hlr, hb, by simpa using hf⟩⟩
      have : ¬ 20 ≤ p := by
        intro hp
        have : 2 ^ 20 ≤ 2 ^ p := Nat.pow_le_pow_right (by omega) hp
        have e : (2 : Nat) ^ 20 = 1048576 := by decide
        omega
      omega
    · rw [if_neg hb]
      exact ⟨h, fun t => Iff.rfl, rfl, fun _ => by omega, .inl rfl⟩
/-- What a put comes to. -/
theorem put_all {T : Tb} (h : HOk T) (hs : T.length ≤ 524288) {k : Int} (k0 : 0 ≤ k) (k1 : k < 18446744073709551616) (n : Int) : HOk (hPut T k n) ∧ (∀ t, Mem (hPut T k n) t ↔ t = ⟨k, n, true⟩ ∨ (Mem T t ∧ t.key ≠ k)) ∧ cnt (hPut T k n) = (if (sl T (hF T k)).full then cnt T else cnt T + 1) ∧ (hPut T k n).length = (putT T k).length ∧ (sl (putT T k) (hF (putT T k) k)).full = (sl T (hF T k)).full := by
  obtain ⟨g1, g2, g3, g4, g5⟩ := putT_all h hs k
  have hth := h.there k
  have hth2 := g1.there k
  have hf := g1.find k
  have hsame : (sl (putT T k) (hF (putT T k) k)).full = (sl T (hF T k)).full := by
    cases e : (sl T (hF T k)).full with
    | true =>
      cases e2 : (sl (putT T k) (hF (putT T k) k)).full with
      | true => rfl
      | false =>
        obtain ⟨m1, m2⟩ := hth.1 e
        exact absurd m2 (hth2.2 e2 _ ((g2 _).2 m1))
    | false =>
      cases e2 : (sl (putT T k) (hF (putT T k) k)).full with
      | false => rfl
      | true =>
        obtain ⟨m1, m2⟩ := hth2.1 e2
        exact absurd m2 (hth.2 e _ ((g2 _).1 m1))
  have hcs := cnt_set (T := putT T k) (q := hF (putT T k) k) (s := ⟨k, n, true⟩) hf.lt
  have hlen : (hPut T k n).length = (putT T k).length := by unfold hPut; rw [List.length_set]
  have hmem : ∀ t, Mem (hPut T k n) t ↔ t = ⟨k, n, true⟩ ∨ (Mem T t ∧ t.key ≠ k) := by
    intro t
    unfold hPut
    constructor
    · rintro ⟨h1, r, h2, h3⟩
      rw [List.length_set] at h2
      rw [sl_set hf.lt] at h3
      by_cases e : r = hF (putT T k) k
      · rw [if_pos e] at h3; exact .inl h3.symm
      · rw [if_neg e] at h3
        refine .inr ⟨(g2 t).1 ⟨h1, r, h2, h3⟩, fun hk => e ?_⟩
        exact g1.inv.found (hm_lt (by have := g1.len; omega) k) hf h2 (by rw [h3]; exact h1) (by rw [h3]; exact hk)
    · rintro (rfl | ⟨hm, hk⟩)
      · refine ⟨rfl, _, by rw [List.length_set]; exact hf.lt, ?_⟩
        rw [sl_set hf.lt, if_pos rfl]
      · obtain ⟨h1, r, h2, h3⟩ := (g2 t).2 hm
        refine ⟨h1, r, by rw [List.length_set]; exact h2, ?_⟩
        have : r ≠ hF (putT T k) k := by
          rintro rfl
          rcases hf.hit with e | e
          · rw [h3, h1] at e; cases e
          · rw [h3] at e; exact hk e
        rw [sl_set hf.lt, if_neg this]
        exact h3
  have hcnt : cnt (hPut T k n) = (if (sl T (hF T k)).full then cnt T else cnt T + 1) := by
    show cnt ((putT T k).set _ _) = _
    rw [hsame, g3] at hcs
    by_cases e : (sl T (hF T k)).full = true
    · simp only [e, if_true] at hcs ⊢; omega
    · simp only [e, if_true] at hcs ⊢; simpa using hcs
  refine ⟨⟨by rw [hlen]; exact g1.pow, ?_, ?_, ?_⟩, hmem, hcnt, hlen, hsame⟩
  · rw [hlen]; exact g1.inv.lay (hm_lt (by have := g1.len; omega) k) hf
  · have hgl := g1.load
    rw [hcnt, hlen]
    by_cases e : (sl T (hF T k)).full = true
    · rw [if_pos e]; omega
    · rw [if_neg e]
      have := g4 (by simpa using e)
      omega
  · intro t ht
    rcases (hmem t).1 ht with rfl | ⟨hm, _⟩
    · exact ⟨k0, k1⟩
    · exact h.keys t hm
theorem clen_is {T : Tb} {q : Nat} (hq : q < T.length) (hf : (sl T q).full = true) (hr : Room T.length T) : IsCl T.length T q (clen T q) := by
  obtain ⟨e, e1, e2⟩ := hr
  have hne : e ≠ q := by rintro rfl; rw [hf] at e2; cases e2
  have hD : D T.length q e ≠ 0 := fun h => hne ((D_zero hq e1).1 h)
  have hDl := D_lt hq e1
  have gen : ∀ (f j : Nat), j + f = T.length → (∀ i, 1 ≤ i → i ≤ j → (sl T (adv T.length q i)).full = true) → j < D T.length q e → IsCl T.length T q (cl T.length T q f j) := by
    intro f
    induction f with
    | zero => intro j h1 _ h3; omega
    | succ f ih =>
      intro j h1 h2 h3
      unfold cl
      by_cases hx : (sl T (adv T.length q (j + 1))).full = true
      · rw [if_pos hx]
        refine ih (j + 1) (by omega) (fun i i1 i2 => ?_) ?_
        · by_cases e3 : i = j + 1
          · rw [e3]; exact hx
          · exact h2 i i1 (by omega)
        · have : D T.length q e ≠ j + 1 := by
            intro h4
            rw [← h4, adv_D hq e1, e2] at hx
            cases hx
          omega
      · rw [if_neg hx]
        exact ⟨by omega, h2, by simpa using hx⟩
  exact gen T.length 0 (by omega) (fun i h1 h2 => by omega) (by omega)
theorem IsCl.uniq {N : Nat} {T : Tb} {q c c' : Nat} (a : IsCl N T q c) (b : IsCl N T q c') : c = c' := by
  have no : ∀ {c c' : Nat}, IsCl N T q c → IsCl N T q c' → ¬ c < c' := by
    intro c c' a b h
    have := b.on (c + 1) (by omega) (by omega)
    rw [a.off] at this; cases this
  have := no a b
  have := no b a
  omega
theorem clr_cnt {N q c : Nat} {T : Tb} (hl : T.length = N) (hq : q < N) (hf : (sl T q).full = true) : ∀ m, m < N → (∀ j, 1 ≤ j → j ≤ m → (sl T (adv N q j)).full = true) → cnt (clr N q T m) + (m + 1) = cnt T
  | 0, hm, _ => by
    have := cnt_set (T := T) (q := q) (s := z3) (by omega)
    simp only [hf, z3] at this
    unfold clr
    simpa [z3] using this
  | m + 1, hm, ho => by
    have ih := clr_cnt (c := c) hl hq hf m (by omega) (fun j h1 h2 => ho j h1 (by omega))
    have hc := cnt_set (T := clr N q T m) (q := adv N q (m + 1)) (s := z3) (by rw [clr_len, hl]; exact adv_lt hq (by omega))
    have hfu : (sl (clr N q T m) (adv N q (m + 1))).full = true := by
      rw [clr_sl hl hq m _ (by omega) (adv_lt hq (by omega)), D_adv hq (by omega), if_neg (by omega)]
      exact ho (m + 1) (by omega) (Nat.le_refl _)
    rw [hfu] at hc
    have e : clr N q T (m + 1) = (clr N q T m).set (adv N q (m + 1)) z3 := rfl
    rw [e]
    simp only [z3] at hc ⊢
    simp at hc
    omega
theorem rel_cnt {N : Nat} {h : Int → Nat} {T : Tb} {q c : Nat} (hh : ∀ k, h k < N) (hi : HInv N h T) (hq : q < N) (hf : (sl T q).full = true) (hc : IsCl N T q c) : ∀ j, j ≤ c → cnt (rel N h T q c j) + (c + 1) = cnt T + j
  | 0, _ => clr_cnt (c := c) hi.len hq hf c (by have := hc.lt; omega) hc.on
  | j + 1, hj => by
    have ih := rel_cnt hh hi hq hf hc j (by omega)
    have hhf := half_all hh hi hq hc j (by omega)
    have hlt := hc.lt
    have hat : adv N q (j + 1) < N := adv_lt hq (by omega)
    have hxf := hc.on (j + 1) (by omega) hj
    have hkeys : ∀ t, Mem (rel N h T q c j) t → t.key ≠ (sl T (adv N q (j + 1))).key := by
      rintro t ⟨h1, r, h2, h3⟩ hk
      rw [hhf.inv.len] at h2
      obtain ⟨r', g1, g2, g3, g4⟩ := hhf.src r h2 (by rw [h3]; exact h1)
      rw [h3] at g2
      have := hi.apart r' (adv N q (j + 1)) g1 hat (by rw [← g2]; exact h1) hxf (by rw [← g2]; exact hk)
      rw [this, D_adv hq (by omega)] at g4
      omega
    have hroom : Room N (rel N h T q c j) := by
      refine ⟨(shf N h T q j).2, hhf.hole, ?_⟩
      rw [hhf.same _ hhf.hole, if_pos rfl]; rfl
    have := (lay_new hh hhf.inv hroom hxf hkeys).2.1
    show cnt (lay1 N h (rel N h T q c j) (sl T (adv N q (j + 1)))) + (c + 1) = _
    omega
/-- What a deletion comes to. -/
theorem del_all {T : Tb} (h : HOk T) (k : Int) : HOk (hDel T k).1 ∧ (∀ t, Mem (hDel T k).1 t ↔ Mem T t ∧ t.key ≠ k) ∧ cnt (hDel T k).1 = (if (sl T (hF T k)).full then cnt T - 1 else cnt T) ∧ (hDel T k).1.length = T.length := by
  have hl := h.len
  have hf := h.find k
  have hth := h.there k
  unfold hDel
  by_cases hx : (sl T (hF T k)).full = true
  · rw [if_pos hx]
    have hh : ∀ k, hm T.length k < T.length := fun k => hm_lt (by omega) k
    have hc := clen_is hf.lt hx h.room
    have hhf := half_all hh h.inv hf.lt hc (clen T (hF T k)) (Nat.le_refl _)
    have hcn := rel_cnt hh h.inv hf.lt hx hc (clen T (hF T k)) (Nat.le_refl _)
    have hlen := hhf.inv.len
    have hm : ∀ t, Mem (rel T.length (hm T.length) T (hF T k) (clen T (hF T k)) (clen T (hF T k))) t ↔ Mem T t ∧ t.key ≠ k := by
      intro t
      constructor
      · rintro ⟨h1, r, h2, h3⟩
        rw [hlen] at h2
        obtain ⟨r', g1, g2, g3, g4⟩ := hhf.src r h2 (by rw [h3]; exact h1)
        rw [h3] at g2
        refine ⟨⟨h1, r', g1, g2.symm⟩, fun hk => g3 ?_⟩
        rw [D_zero hf.lt g1]
        exact h.inv.found (hh k) hf g1 (by rw [← g2]; exact h1) (by rw [← g2]; exact hk)
      · rintro ⟨⟨h1, r', g1, g2⟩, hk⟩
        have hne : r' ≠ hF T k := by
          rintro rfl
          rw [← g2] at hk
          exact hk (hth.1 hx).2
        obtain ⟨r, r1, r2⟩ := hhf.dst r' g1 (by rw [g2]; exact h1) (fun e => hne ((D_zero hf.lt g1).1 e)) (by omega)
        exact ⟨h1, r, by rw [hlen]; exact r1, by rw [r2]; exact g2⟩
    simp only [hx, if_true]
    refine ⟨⟨by rw [hlen]; exact h.pow, ?_, ?_, fun t ht => h.keys t ((hm t).1 ht).1⟩, hm, by omega, hlen⟩
    · have := hhf.inv
      rwa [hlen]
    · have := h.load
      rw [hlen]
      omega
  · rw [if_neg hx]
    simp only [hx]
    refine ⟨h, fun t => ⟨fun ht => ⟨ht, hth.2 (by simpa using hx) t ht⟩, fun ht => ht.1⟩, ?_, ?_⟩ <;> simp
theorem empty_ok : HOk (List.replicate 8 z3) := by
  refine ⟨⟨3, by omega, by omega, by simp⟩, ?_, by rw [empty_cnt]; simp, fun t ht => absurd ht (empty_mem _ _)⟩
  rw [List.length_replicate]
  exact empty_inv _ _
end Go.Al
end
section
set_option linter.unusedVariables false
set_option linter.unusedSimpArgs false
set_option maxRecDepth 20000
set_option maxHeartbeats 1600000
namespace Go.Al
open Go.Proofs
def Sl3.cells (x : Sl3) : List AV := [.sc (.int .u64 x.key), .sc (.int .i32 x.n), .sc (.bool x.full)]
def TL (T : Tb) : List (List AV) := T.map Sl3.cells
theorem TL_len (T : Tb) : (TL T).length = T.length := by simp [TL]
theorem TL_get {T : Tb} {q : Nat} (h : q < T.length) : (TL T)[q]? = some [.sc (.int .u64 (sl T q).key), .sc (.int .i32 (sl T q).n), .sc (.bool (sl T q).full)] := by
  simp [TL, sl_get h, Sl3.cells]
theorem TL_set (T : Tb) (q : Nat) (x : Sl3) : (TL T).set q [.sc (.int .u64 x.key), .sc (.int .i32 x.n), .sc (.bool x.full)] = TL (T.set q x) := by
  simp [TL, Sl3.cells]
theorem TL_rep (m : Nat) : List.replicate m [.sc (.int .u64 0), .sc (.int .i32 0), .sc (.bool false)] = TL (List.replicate m z3) := by simp [TL, Sl3.cells, z3]
theorem noIdsE_TL (T : Tb) : noIdsE (TL T) = true := noIdsE_map _ (fun x => by simp [Sl3.cells, noIdsL, noIds]) T
/-- Where a table lies: its struct at a, its slots at s; both below n; it says to have m. -/
structure HtH (H : AH) (n a s : Nat) (T : Tb) (m : Int) : Prop where
  ha : H a = some (.obj 106 2 [[.sl s 3 0 T.length, .sc (.int .i64 m)]] false)
  hs : H s = some (.obj 130 3 (TL T) false)
  la : a < n
  ls : s < n
theorem HtH.ne {H : AH} {n a s : Nat} {T : Tb} {m : Int} (h : HtH H n a s T m) : a ≠ s := by
  rintro rfl
  have := h.ha.symm.trans h.hs
  simp at this
theorem HtH.keep {H H' : AH} {n n' a s : Nat} {T : Tb} {m : Int} (h : HtH H n a s T m) (hn : n ≤ n') (hk : ∀ j, j < n → j = a ∨ j = s → H' j = H j) : HtH H' n' a s T m :=
  ⟨by rw [hk _ h.la (.inl rfl)]; exact h.ha, by rw [hk _ h.ls (.inr rfl)]; exact h.hs, Nat.lt_of_lt_of_le h.la hn, Nat.lt_of_lt_of_le h.ls hn⟩
theorem HtH.new {H : AH} {n a s : Nat} {T : Tb} {m : Int} {x : Option AO} (h : HtH H n a s T m) : HtH (upd H n x) (n + 1) a s T m :=
  h.keep (by omega) fun j hj _ => upd_ne _ _ (by omega)
/-- A table's length is a power of two. -/
def Pw (N : Nat) : Prop := ∃ p, 3 ≤ p ∧ p ≤ 20 ∧ N = 2 ^ p
theorem Pw.le {N : Nat} (h : Pw N) : 8 ≤ N ∧ N ≤ 1048576 := by
  obtain ⟨p, h1, h2, rfl⟩ := h
  have a1 : 2 ^ 3 ≤ 2 ^ p := Nat.pow_le_pow_right (by omega) h1
  have a2 : 2 ^ p ≤ 2 ^ 20 := Nat.pow_le_pow_right (by omega) h2
  exact ⟨by simpa using a1, by simpa using a2⟩
def Key (k : Int) : Prop := 0 ≤ k ∧ k < 18446744073709551616
theorem hm_home {N : Nat} (h : Pw N) {k : Int} (hk : Key k) : homeF k (N : Int) = (hm N k : Int) := by
  obtain ⟨p, h1, h2, rfl⟩ := h
  have e : (((2 ^ p : Nat)) : Int) = (2 : Int) ^ p := by push_cast; rfl
  obtain ⟨g0, g1, _⟩ := home_rng hk.1 hk.2 (p := p) (by omega)
  unfold hm
  rw [e]
  rw [Nat.mod_eq_of_lt (by omega)]
  omega
theorem hm_homeR {N : Nat} (h : Pw N) {k : Int} (hk : Key k) : homeR k (N : Int) = (hm N k : Int) := by
  rw [homeR_eq hk.1 hk.2, hm_home h hk]
theorem and_mask {x : Int} (h0 : 0 ≤ x) {p : Nat} (hp : p < 31) : Go.bits .and .i64 x ((2 : Int) ^ p - 1) = x % 2 ^ p := by
  have hq := pow31 p hp
  have ep : (2 : Int) ^ p = ((2 ^ p : Nat) : Int) := by push_cast; rfl
  have hp1 : 1 ≤ 2 ^ p := Nat.one_le_two_pow
  have hp2 : 2 ^ p ≤ 2 ^ 30 := Nat.pow_le_pow_right (by omega) (by omega)
  show IntKind.i64.wrap ((BitVec.ofInt 64 x &&& BitVec.ofInt 64 ((2 : Int) ^ p - 1)).toNat : Int) = _
  have q1 : 0 ≤ x % 2 ^ p := Int.emod_nonneg _ (by omega)
  have q2 : x % 2 ^ p < 2 ^ p := Int.emod_lt_of_pos _ (by omega)
  have e2 : (((2 : Int) ^ p - 1) % 18446744073709551616).toNat = 2 ^ p - 1 := by
    rw [ep]; omega
  rw [BitVec.toNat_and, bvmod, bvmod, e2, Nat.and_two_pow_sub_one_eq_mod]
  have e3 : (((x % 18446744073709551616).toNat % 2 ^ p : Nat) : Int) = x % 2 ^ p := by
    rw [Int.natCast_emod, Int.toNat_of_nonneg (Int.emod_nonneg _ (by omega)), ← ep]
    refine Int.emod_emod_of_dvd _ ?_
    refine ⟨2 ^ (64 - p), ?_⟩
    rw [← Int.pow_add]
    have : p + (64 - p) = 64 := by omega
    rw [this]; rfl
  rw [e3]
  exact wrap_in q1 (by omega)
theorem and_next {N q : Nat} (h : Pw N) (hq : q < N) : Go.bits .and .i64 ((q : Int) + 1) ((N : Int) - 1) = (adv N q 1 : Int) := by
  obtain ⟨p, h1, h2, rfl⟩ := h
  have e : (((2 ^ p : Nat)) : Int) = (2 : Int) ^ p := by push_cast; rfl
  rw [e, and_mask (by omega) (by omega), ← e]
  unfold adv
  split
  · rw [Int.emod_eq_of_lt (by omega) (by omega)]; omega
  · have : (q : Int) + 1 = ((2 ^ p : Nat) : Int) := by omega
    rw [this, Int.emod_self]; omega
theorem rem_next {N q : Nat} (hq : q < N) : ((q : Int) + 1).tmod (N : Int) = (adv N q 1 : Int) := by
  rw [tmod_two (by omega) (by omega) (by omega)]
  unfold adv
  split
  · rw [if_pos (by omega)]; omega
  · rw [if_neg (by omega)]; omega
theorem cNext {H : AH} {n a s : Nat} {T : Tb} {m : Int} (h : HtH H n a s T m) (hp : Pw T.length) {q : Nat} (hq : q < T.length) :
    HCalls Try.prog 84 [.ptr a 2 0 0, .sc (.int .i64 q)] H n fun r H' n' => r = .sc (.int .i64 (adv T.length q 1)) ∧ H' = H ∧ n' = n := by
  have ha := h.ha
  have hl := hp.le
  have w1 : IntKind.i64.wrap ((q : Int) + 1) = (q : Int) + 1 := wrap_in (by omega) (by omega)
  have w2 : IntKind.i64.wrap ((T.length : Int) - 1) = (T.length : Int) - 1 := wrap_in (by omega) (by omega)
  have e := and_next hp hq
  refine HCalls.walk Try.func84 rfl rfl Try.ntmps84 Try.results84 (by simp) ?_; simp (maxSteps := 400000) (dsimp := false) only [axs, AThen, ABlock, dstsOk, AStep, callsF, AWant, aop, AS.ev, AS.put, upd, AS.bound, abin, aint, aload, astore, cellsAt, AV.cells, alen, elems, AV.int?, FPost, aresL, ares1, pack, afill, splice, Value.oneCell', Nat.reduceLT, Nat.reduceLeDiff, Nat.reduceEqDiff, Nat.reduceAdd, Nat.reduceMul, Nat.reduceSub, Nat.reduceBEq, Int.reduceLE, Int.reduceLT, Int.reduceToNat, Int.reduceNeg, Int.reduceEq, axt, ftK, ft3, pickP, AScope, AAll, pickQ, ftQ, inHeap, tys]
  simp (maxSteps := 400000) (dsimp := false) only [ha, w1, w2, e, axs, AThen, ABlock, dstsOk, AStep, callsF, AWant, aop, AS.ev, AS.put, upd, AS.bound, abin, aint, aload, astore, cellsAt, AV.cells, alen, elems, AV.int?, FPost, aresL, ares1, pack, afill, splice, Value.oneCell', Nat.reduceLT, Nat.reduceLeDiff, Nat.reduceEqDiff, Nat.reduceAdd, Nat.reduceMul, Nat.reduceSub, Nat.reduceBEq, Int.reduceLE, Int.reduceLT, Int.reduceToNat, Int.reduceNeg, Int.reduceEq, axt, ftK, ft3, pickP, AScope, AAll, pickQ, ftQ, inHeap, tys]
  exact ⟨_, rfl, rfl⟩
theorem cHtLen {H : AH} {n a s : Nat} {T : Tb} {m : Int} (h : HtH H n a s T m) :
    HCalls Try.prog 40 [.ptr a 2 0 0] H n fun r H' n' => r = .sc (.int .i64 m) ∧ H' = H ∧ n' = n := by
  have ha := h.ha
  refine HCalls.walk Try.func40 rfl rfl Try.ntmps40 Try.results40 (by simp) ?_; simp (maxSteps := 400000) (dsimp := false) only [ha, axs, AThen, ABlock, dstsOk, AStep, callsF, AWant, aop, AS.ev, AS.put, upd, AS.bound, abin, aint, aload, astore, cellsAt, AV.cells, alen, elems, AV.int?, FPost, aresL, ares1, pack, afill, splice, Value.oneCell', Nat.reduceLT, Nat.reduceLeDiff, Nat.reduceEqDiff, Nat.reduceAdd, Nat.reduceMul, Nat.reduceSub, Nat.reduceBEq, Int.reduceLE, Int.reduceLT, Int.reduceToNat, Int.reduceNeg, Int.reduceEq, axt, ftK, ft3, pickP, AScope, AAll, pickQ, ftQ, inHeap, tys]
  exact ⟨_, rfl, rfl⟩
theorem cHtSlots {H : AH} {n a s : Nat} {T : Tb} {m : Int} (h : HtH H n a s T m) :
    HCalls Try.prog 42 [.ptr a 2 0 0] H n fun r H' n' => r = .sc (.int .i64 T.length) ∧ H' = H ∧ n' = n := by
  have ha := h.ha
  refine HCalls.walk Try.func42 rfl rfl Try.ntmps42 Try.results42 (by simp) ?_; simp (maxSteps := 400000) (dsimp := false) only [ha, axs, AThen, ABlock, dstsOk, AStep, callsF, AWant, aop, AS.ev, AS.put, upd, AS.bound, abin, aint, aload, astore, cellsAt, AV.cells, alen, elems, AV.int?, FPost, aresL, ares1, pack, afill, splice, Value.oneCell', Nat.reduceLT, Nat.reduceLeDiff, Nat.reduceEqDiff, Nat.reduceAdd, Nat.reduceMul, Nat.reduceSub, Nat.reduceBEq, Int.reduceLE, Int.reduceLT, Int.reduceToNat, Int.reduceNeg, Int.reduceEq, axt, ftK, ft3, pickP, AScope, AAll, pickQ, ftQ, inHeap, tys]
  exact ⟨_, rfl, rfl⟩
/-- The objects that a search leaves behind: a copy of each slot that it looked at. -/
def fdH (H : AH) (n : Nat) (T : Tb) (a : Nat) : Nat → AH
  | 0 => H
  | j + 1 => upd (fdH H n T a j) (n + j) (some (.obj 130 3 [(sl T (adv T.length a j)).cells] false))
theorem fdH_old {H : AH} {n : Nat} {T : Tb} {a : Nat} : ∀ (j id : Nat), id < n → fdH H n T a j id = H id
  | 0, id, _ => rfl
  | j + 1, id, h => by
    unfold fdH
    rw [upd_ne _ _ (by omega), fdH_old j id h]
theorem cFind {H : AH} {n a s : Nat} {T : Tb} {m : Int} (h : HtH H n a s T m) (hp : Pw T.length) {k : Int} (hk : Key k) {q : Nat} (hq : IsFind T.length (hm T.length) T k q) :
    HCalls Try.prog 80 [.ptr a 2 0 0, .sc (.int .u64 k)] H n fun r H' n' => r = .sc (.int .i64 q) ∧ H' = fdH H n T (hm T.length k) (D T.length (hm T.length k) q + 1) ∧ n' = n + (D T.length (hm T.length k) q + 1) := by
  have ha := h.ha
  have hs := h.hs
  have hl := hp.le
  have hh : hm T.length k < T.length := hm_lt (by omega) k
  have e := hm_home hp hk
  have hD := D_lt hh hq.lt
  refine HCalls.walk Try.func80 rfl rfl Try.ntmps80 Try.results80 (by simp) ?_; simp (maxSteps := 400000) (dsimp := false) only [ha, axs, AThen, ABlock, dstsOk, AStep, callsF, AWant, aop, AS.ev, AS.put, upd, AS.bound, abin, aint, aload, astore, cellsAt, AV.cells, alen, elems, AV.int?, FPost, aresL, ares1, pack, afill, splice, Value.oneCell', Nat.reduceLT, Nat.reduceLeDiff, Nat.reduceEqDiff, Nat.reduceAdd, Nat.reduceMul, Nat.reduceSub, Nat.reduceBEq, Int.reduceLE, Int.reduceLT, Int.reduceToNat, Int.reduceNeg, Int.reduceEq, axt, ftK, ft3, pickP, AScope, AAll, pickQ, ftQ, inHeap, tys]
  refine ACallK.flat rfl (f13 _ _) (by simp only [SeesL, e, axs, axt, AS.ev, AS.put, upd, inHeap, Nat.reduceLT, Nat.reduceEqDiff, Nat.reduceAdd, Nat.reduceBEq]; repeat' (first | exact True.intro | exact Sees.sc | exact Sees.none | ((with_reducible refine Sees.same ?_) <;> simp [noIds, noIdsL, noIdsE, noIdsE_U, noIdsE_UU] <;> fail) | (refine Live.sees ?_ ?_ <;> first | assumption | (simp [noIdsE_U, noIdsE_UU] <;> fail)) | (refine Sees.obj ?_ ?_ ?_ <;> first | exact ⟨_, _, by assumption, rfl⟩ | (simp [U_len, UU_len] <;> fail) | (simp [noIdsE_U, noIdsE_UU] <;> fail) | (simp [U, UU, upd] <;> fail) | (simp [U, UU, upd, neS, *] <;> fail)) | (refine Sees.of_seen 3 ?_ <;> simp [seen, upd, noIdsE, noIdsL, noIds, U, UU, Nat.add_assoc] <;> fail) | refine Sees.agg ?_ | refine And.intro ?_ ?_ | simp only [SeesL])) (by simp [flatV, flatL]) ?_; simp (maxSteps := 400000) (dsimp := false) only [e, axs, AThen, ABlock, dstsOk, AStep, callsF, AWant, aop, AS.ev, AS.put, upd, AS.bound, abin, aint, aload, astore, cellsAt, AV.cells, alen, elems, AV.int?, FPost, aresL, ares1, pack, afill, splice, Value.oneCell', Nat.reduceLT, Nat.reduceLeDiff, Nat.reduceEqDiff, Nat.reduceAdd, Nat.reduceMul, Nat.reduceSub, Nat.reduceBEq, Int.reduceLE, Int.reduceLT, Int.reduceToNat, Int.reduceNeg, Int.reduceEq, axt, ftK, ft3, pickP, AScope, AAll, pickQ, ftQ, inHeap, tys]
  refine ALoop.upto (D T.length (hm T.length k) q) (fun p st => st.t 0 = .ptr a 2 0 0 ∧ st.t 1 = .sc (.int .u64 k) ∧ st.t 5 = .sc (.int .i64 (adv T.length (hm T.length k) p)) ∧ st.H = fdH H n T (hm T.length k) p ∧ st.n = n + p) ⟨rfl, rfl, by rw [adv_zero hh]; rfl, rfl, rfl⟩ ?_
  rintro p st hp' hb ⟨t0, t1, t5, eH, en⟩
  have hat : adv T.length (hm T.length k) p < T.length := adv_lt hh (by omega)
  have ha' : st.H a = some (.obj 106 2 [[.sl s 3 0 T.length, .sc (.int .i64 m)]] false) := by rw [eH, fdH_old _ _ h.la]; exact ha
  have hs' : st.H s = some (.obj 130 3 (TL T) false) := by rw [eH, fdH_old _ _ h.ls]; exact hs
  have ne1 : ¬ a = st.n := by have := h.la; omega
  have ne2 : ¬ s = st.n := by have := h.ls; omega
  have hend : fdH H n T (hm T.length k) (p + 1) = upd st.H st.n (some (.obj 130 3 [(sl T (adv T.length (hm T.length k) p)).cells] false)) := by rw [eH, en]; rfl
  have hnx : p < D T.length (hm T.length k) q → adv T.length (hm T.length k) (p + 1) = adv T.length (adv T.length (hm T.length k) p) 1 := fun hx => adv_succ hh (by omega)
  have hmiss : p < D T.length (hm T.length k) q → (sl T (adv T.length (hm T.length k) p)).full = true ∧ (sl T (adv T.length (hm T.length k) p)).key ≠ k := fun hx => hq.miss _ hat (by rw [D_adv hh (by omega)]; exact hx)
  have hlast : ¬ p < D T.length (hm T.length k) q → adv T.length (hm T.length k) p = q := fun hx => by rw [show p = D T.length (hm T.length k) q by omega, adv_D hh hq.lt]
  generalize adv T.length (hm T.length k) p = r at *
  have hg := TL_get hat
  have r0 : (0 : Int) ≤ r := by omega
  have r1 : (r : Int) < T.length := by omega
  have hnew : HtH (upd st.H st.n (some (.obj 130 3 [(sl T r).cells] false))) (st.n + 1) a s T m := HtH.new ⟨ha', hs', by have := h.la; omega, by have := h.ls; omega⟩
  by_cases hx : p < D T.length (hm T.length k) q
  · obtain ⟨m1, m2⟩ := hmiss hx
    have hc : (sl T r).cells = [.sc (.int .u64 (sl T r).key), .sc (.int .i32 (sl T r).n), .sc (.bool true)] := by rw [Sl3.cells, m1]
    rw [hc] at hnew hend
    simp (maxSteps := 400000) (dsimp := false) only [t0, t1, t5, ha', hs', hg, hat, ne1, ne2, r0, r1, upd_upd, m1, m2, axs, AThen, ABlock, dstsOk, AStep, callsF, AWant, aop, AS.ev, AS.put, upd, AS.bound, abin, aint, aload, astore, cellsAt, AV.cells, alen, elems, AV.int?, FPost, aresL, ares1, pack, afill, splice, Value.oneCell', Nat.reduceLT, Nat.reduceLeDiff, Nat.reduceEqDiff, Nat.reduceAdd, Nat.reduceMul, Nat.reduceSub, Nat.reduceBEq, Int.reduceLE, Int.reduceLT, Int.reduceToNat, Int.reduceNeg, Int.reduceEq, axt, ftK, ft3, pickP, AScope, AAll, pickQ, ftQ, inHeap, tys]
    refine ACallK.heap _ rfl (cNext hnew hp hat) ?_; rintro r' H' n' ⟨rfl, eH, en⟩; obtain rfl := eH.symm; obtain rfl := en.symm; clear eH en; simp (maxSteps := 400000) (dsimp := false) only [axs, AThen, ABlock, dstsOk, AStep, callsF, AWant, aop, AS.ev, AS.put, upd, AS.bound, abin, aint, aload, astore, cellsAt, AV.cells, alen, elems, AV.int?, FPost, aresL, ares1, pack, afill, splice, Value.oneCell', Nat.reduceLT, Nat.reduceLeDiff, Nat.reduceEqDiff, Nat.reduceAdd, Nat.reduceMul, Nat.reduceSub, Nat.reduceBEq, Int.reduceLE, Int.reduceLT, Int.reduceToNat, Int.reduceNeg, Int.reduceEq, axt, ftK, ft3, pickP, AScope, AAll, pickQ, ftQ, inHeap, tys]
    refine ⟨hx, ?_⟩
    rw [hnx hx, hend, en]
    exact ⟨t0, t1, rfl, rfl, by omega⟩
  · have hrq := hlast hx
    have hd : p = D T.length (hm T.length k) q := by omega
    subst hrq
    cases hf : (sl T r).full with
    | false =>
      have hc : (sl T r).cells = [.sc (.int .u64 (sl T r).key), .sc (.int .i32 (sl T r).n), .sc (.bool false)] := by rw [Sl3.cells, hf]
      rw [hc] at hend
      simp (maxSteps := 400000) (dsimp := false) only [t0, t1, t5, ha', hs', hg, hat, ne1, ne2, r0, r1, upd_upd, hf, axs, AThen, ABlock, dstsOk, AStep, callsF, AWant, aop, AS.ev, AS.put, upd, AS.bound, abin, aint, aload, astore, cellsAt, AV.cells, alen, elems, AV.int?, FPost, aresL, ares1, pack, afill, splice, Value.oneCell', Nat.reduceLT, Nat.reduceLeDiff, Nat.reduceEqDiff, Nat.reduceAdd, Nat.reduceMul, Nat.reduceSub, Nat.reduceBEq, Int.reduceLE, Int.reduceLT, Int.reduceToNat, Int.reduceNeg, Int.reduceEq, axt, ftK, ft3, pickP, AScope, AAll, pickQ, ftQ, inHeap, tys]
      exact ⟨_, rfl, rfl, by rw [← hd, hend], by omega⟩
    | true =>
      have hkk : (sl T r).key = k := by
        rcases hq.hit with e2 | e2
        · rw [hf] at e2; cases e2
        · exact e2
      have hkk := eq_true hkk
      simp (maxSteps := 400000) (dsimp := false) only [t0, t1, t5, ha', hs', hg, hat, ne1, ne2, r0, r1, upd_upd, hf, hkk, axs, AThen, ABlock, dstsOk, AStep, callsF, AWant, aop, AS.ev, AS.put, upd, AS.bound, abin, aint, aload, astore, cellsAt, AV.cells, alen, elems, AV.int?, FPost, aresL, ares1, pack, afill, splice, Value.oneCell', Nat.reduceLT, Nat.reduceLeDiff, Nat.reduceEqDiff, Nat.reduceAdd, Nat.reduceMul, Nat.reduceSub, Nat.reduceBEq, Int.reduceLE, Int.reduceLT, Int.reduceToNat, Int.reduceNeg, Int.reduceEq, axt, ftK, ft3, pickP, AScope, AAll, pickQ, ftQ, inHeap, tys]
      have hc : (sl T r).cells = [.sc (.int .u64 (sl T r).key), .sc (.int .i32 (sl T r).n), .sc (.bool true)] := by rw [Sl3.cells, hf]
      rw [hc] at hend
      exact ⟨_, rfl, rfl, by rw [← hd, hend], by omega⟩
end Go.Al
end
section
set_option linter.unusedVariables false
set_option linter.unusedSimpArgs false
set_option maxRecDepth 20000
set_option maxHeartbeats 1600000
namespace Go.Al
open Go.Proofs
/-- What a search leaves behind, with one object more. -/
def fdN (T : Tb) (k : Int) (q : Nat) : Nat := D T.length (hm T.length k) q + 1
def getF (T : Tb) (q : Nat) : List AV := [.sc (.int .i32 (sl T q).n), .sc (.bool (sl T q).full)]
theorem HtH.keeps {H H' : AH} {n n' a s : Nat} {T : Tb} {m : Int} (h : HtH H n a s T m) (hk : Keeps H n H' n') : HtH H' n' a s T m := h.keep hk.1 fun j hj _ => hk.2 j hj
theorem fdH_keeps (H : AH) (n : Nat) (T : Tb) (a j : Nat) : Keeps H n (fdH H n T a j) (n + j) := ⟨by omega, fun id h => fdH_old j id h⟩
theorem cHtGet {H : AH} {n a s : Nat} {T : Tb} {m : Int} (h : HtH H n a s T m) (hp : Pw T.length) {k : Int} (hk : Key k) {q : Nat} (hq : IsFind T.length (hm T.length) T k q) :
    HCalls Try.prog 69 [.ptr a 2 0 0, .sc (.int .u64 k)] H n fun r H' n' => r = .tup (getF T q) ∧ Keeps H n H' n' := by
  have ha := h.ha
  have hs := h.hs
  have hl := hp.le
  have hg := TL_get hq.lt
  have r0 : (0 : Int) ≤ q := by omega
  have r1 : (q : Int) < T.length := by have := hq.lt; omega
  have e0 : ∀ j, fdH H n T (hm T.length k) j s = some (.obj 130 3 (TL T) false) := fun j => by rw [fdH_old _ _ h.ls]; exact hs
  have e1 : ∀ j (x : Option AO), fdH (upd H n x) (n + 1) T (hm T.length k) j s = some (.obj 130 3 (TL T) false) := fun j x => by rw [fdH_old _ _ (by have := h.ls; omega), upd_ne _ _ (by have := h.ls; omega)]; exact hs
  have e2 : ∀ j (x : Option AO), fdH (upd H n x) (n + 1) T (hm T.length k) j n = x := fun j x => by rw [fdH_old _ _ (by omega), upd_same]
  have ne1 : ¬ s = n := by have := h.ls; omega
  have ne2 : ∀ j, ¬ s = n + j := fun j => by have := h.ls; omega
  refine HCalls.walk Try.func69 rfl rfl Try.ntmps69 Try.results69 (by simp) ?_; simp (maxSteps := 400000) (dsimp := false) only [ha, axs, AThen, ABlock, dstsOk, AStep, callsF, AWant, aop, AS.ev, AS.put, upd, AS.bound, abin, aint, aload, astore, cellsAt, AV.cells, alen, elems, AV.int?, FPost, aresL, ares1, pack, afill, splice, Value.oneCell', Nat.reduceLT, Nat.reduceLeDiff, Nat.reduceEqDiff, Nat.reduceAdd, Nat.reduceMul, Nat.reduceSub, Nat.reduceBEq, Int.reduceLE, Int.reduceLT, Int.reduceToNat, Int.reduceNeg, Int.reduceEq, axt, ftK, ft3, pickP, AScope, AAll, pickQ, ftQ, inHeap, tys]
  refine ADraw.via (fun st => ∃ id, st.t 6 = .ptr id 3 0 0 ∧ st.H id = some (.obj 130 3 [(sl T q).cells] false) ∧ Keeps H n st.H st.n) ?_ ?_
  · refine ADraw.treeQ [] [6] [(0, true), (1, true), (2, true), (3, true), (4, true), (5, true)] 4 (.leaf [(6, true), (7, true), (8, true), (9, true), (10, true)]) (.leaf [(9, true), (6, true), (7, true), (8, true), (10, true)]) mixed (by kernel_rfl) ?_
    have hM : modeOf [] [6] 0 = 0 ∧ modeOf [] [6] 1 = 0 ∧ modeOf [] [6] 2 = 0 ∧ modeOf [] [6] 3 = 0 ∧ modeOf [] [6] 4 = 0 ∧ modeOf [] [6] 5 = 0 ∧ modeOf [] [6] 6 = 2 ∧ modeOf [] [6] 7 = 0 ∧ modeOf [] [6] 8 = 0 ∧ modeOf [] [6] 9 = 0 ∧ modeOf [] [6] 10 = 0 := by decide
    simp (maxSteps := 400000) (dsimp := false) only [ha, hM, axs, AThen, ABlock, dstsOk, AStep, callsF, AWant, aop, AS.ev, AS.put, upd, AS.bound, abin, aint, aload, astore, cellsAt, AV.cells, alen, elems, AV.int?, FPost, aresL, ares1, pack, afill, splice, Value.oneCell', Nat.reduceLT, Nat.reduceLeDiff, Nat.reduceEqDiff, Nat.reduceAdd, Nat.reduceMul, Nat.reduceSub, Nat.reduceBEq, Int.reduceLE, Int.reduceLT, Int.reduceToNat, Int.reduceNeg, Int.reduceEq, axt, ftK, ft3, pickP, AScope, AAll, pickQ, ftQ, inHeap, tys]
    refine ⟨?_, ?_⟩
    · refine AQuietK.intro rfl rfl (cFind h hp hk hq) (fun id hid => fdH_old _ _ hid) ?_
      simp (maxSteps := 400000) (dsimp := false) only [e0, r0, r1, hg, ne2, upd_upd, axs, AThen, ABlock, dstsOk, AStep, callsF, AWant, aop, AS.ev, AS.put, upd, AS.bound, abin, aint, aload, astore, cellsAt, AV.cells, alen, elems, AV.int?, FPost, aresL, ares1, pack, afill, splice, Value.oneCell', Nat.reduceLT, Nat.reduceLeDiff, Nat.reduceEqDiff, Nat.reduceAdd, Nat.reduceMul, Nat.reduceSub, Nat.reduceBEq, Int.reduceLE, Int.reduceLT, Int.reduceToNat, Int.reduceNeg, Int.reduceEq, axt, ftK, ft3, pickP, AScope, AAll, pickQ, ftQ, inHeap, tys]
      exact ⟨_, rfl, by rw [if_pos rfl]; rfl, (fdH_keeps H n T _ _).upd⟩
    · refine AQuietK.intro rfl rfl (cFind h.new hp hk hq) (fun id hid => fdH_old _ _ hid) ?_
      simp (maxSteps := 400000) (dsimp := false) only [e1, e2, r0, r1, hg, ne1, ne2, axs, AThen, ABlock, dstsOk, AStep, callsF, AWant, aop, AS.ev, AS.put, upd, AS.bound, abin, aint, aload, astore, cellsAt, AV.cells, alen, elems, AV.int?, FPost, aresL, ares1, pack, afill, splice, Value.oneCell', Nat.reduceLT, Nat.reduceLeDiff, Nat.reduceEqDiff, Nat.reduceAdd, Nat.reduceMul, Nat.reduceSub, Nat.reduceBEq, Int.reduceLE, Int.reduceLT, Int.reduceToNat, Int.reduceNeg, Int.reduceEq, axt, ftK, ft3, pickP, AScope, AAll, pickQ, ftQ, inHeap, tys]
      exact ⟨_, rfl, by rw [if_pos rfl]; rfl, by omega, fun j hj => by rw [upd_ne _ _ (by omega), fdH_old _ _ (by omega), upd_ne _ _ (by omega)]⟩
  · rintro st hb ⟨id, t6, h6, hkp⟩
    have h6 : st.H id = some (.obj 130 3 [[.sc (.int .u64 (sl T q).key), .sc (.int .i32 (sl T q).n), .sc (.bool (sl T q).full)]] false) := h6
    simp (maxSteps := 400000) (dsimp := false) only [axs, AThen, ABlock, dstsOk, AStep, callsF, AWant, aop, AS.ev, AS.put, upd, AS.bound, abin, aint, aload, astore, cellsAt, AV.cells, alen, elems, AV.int?, FPost, aresL, ares1, pack, afill, splice, Value.oneCell', Nat.reduceLT, Nat.reduceLeDiff, Nat.reduceEqDiff, Nat.reduceAdd, Nat.reduceMul, Nat.reduceSub, Nat.reduceBEq, Int.reduceLE, Int.reduceLT, Int.reduceToNat, Int.reduceNeg, Int.reduceEq, axt, ftK, ft3, pickP, AScope, AAll, pickQ, ftQ, inHeap, tys]
    refine ADraw.planR [] [(0, true), (1, true), (2, true), (3, true), (4, true), (5, true)] [(0, false), (0, false), (0, false), (0, false), (0, false), (0, false)] mixed (by kernel_rfl) (by kernel_rfl) ?_
    simp (maxSteps := 400000) (dsimp := false) only [t6, h6, axs, AThen, ABlock, dstsOk, AStep, callsF, AWant, aop, AS.ev, AS.put, upd, AS.bound, abin, aint, aload, astore, cellsAt, AV.cells, alen, elems, AV.int?, FPost, aresL, ares1, pack, afill, splice, Value.oneCell', Nat.reduceLT, Nat.reduceLeDiff, Nat.reduceEqDiff, Nat.reduceAdd, Nat.reduceMul, Nat.reduceSub, Nat.reduceBEq, Int.reduceLE, Int.reduceLT, Int.reduceToNat, Int.reduceNeg, Int.reduceEq, axt, ftK, ft3, pickP, AScope, AAll, pickQ, ftQ, inHeap, tys]
    exact ⟨_, rfl, rfl, hkp⟩
theorem cHtGet0 {H : AH} {n : Nat} (k : Int) : HCalls Try.prog 69 [.sc (.pointer none), .sc (.int .u64 k)] H n fun r H' n' => r = .tup [.sc (.int .i32 0), .sc (.bool false)] ∧ H' = H ∧ n' = n := by
  refine HCalls.walk Try.func69 rfl rfl Try.ntmps69 Try.results69 (by simp) ?_; simp (maxSteps := 400000) (dsimp := false) only [axs, AThen, ABlock, dstsOk, AStep, callsF, AWant, aop, AS.ev, AS.put, upd, AS.bound, abin, aint, aload, astore, cellsAt, AV.cells, alen, elems, AV.int?, FPost, aresL, ares1, pack, afill, splice, Value.oneCell', Nat.reduceLT, Nat.reduceLeDiff, Nat.reduceEqDiff, Nat.reduceAdd, Nat.reduceMul, Nat.reduceSub, Nat.reduceBEq, Int.reduceLE, Int.reduceLT, Int.reduceToNat, Int.reduceNeg, Int.reduceEq, axt, ftK, ft3, pickP, AScope, AAll, pickQ, ftQ, inHeap, tys]
  exact ⟨_, rfl, rfl⟩
theorem cHtLen0 {H : AH} {n : Nat} : HCalls Try.prog 40 [.sc (.pointer none)] H n fun r H' n' => r = .sc (.int .i64 0) ∧ H' = H ∧ n' = n := by
  refine HCalls.walk Try.func40 rfl rfl Try.ntmps40 Try.results40 (by simp) ?_; simp (maxSteps := 400000) (dsimp := false) only [axs, AThen, ABlock, dstsOk, AStep, callsF, AWant, aop, AS.ev, AS.put, upd, AS.bound, abin, aint, aload, astore, cellsAt, AV.cells, alen, elems, AV.int?, FPost, aresL, ares1, pack, afill, splice, Value.oneCell', Nat.reduceLT, Nat.reduceLeDiff, Nat.reduceEqDiff, Nat.reduceAdd, Nat.reduceMul, Nat.reduceSub, Nat.reduceBEq, Int.reduceLE, Int.reduceLT, Int.reduceToNat, Int.reduceNeg, Int.reduceEq, axt, ftK, ft3, pickP, AScope, AAll, pickQ, ftQ, inHeap, tys]
  exact ⟨_, rfl, rfl⟩
theorem cHtSlots0 {H : AH} {n : Nat} : HCalls Try.prog 42 [.sc (.pointer none)] H n fun r H' n' => r = .sc (.int .i64 0) ∧ H' = H ∧ n' = n := by
  refine HCalls.walk Try.func42 rfl rfl Try.ntmps42 Try.results42 (by simp) ?_; simp (maxSteps := 400000) (dsimp := false) only [axs, AThen, ABlock, dstsOk, AStep, callsF, AWant, aop, AS.ev, AS.put, upd, AS.bound, abin, aint, aload, astore, cellsAt, AV.cells, alen, elems, AV.int?, FPost, aresL, ares1, pack, afill, splice, Value.oneCell', Nat.reduceLT, Nat.reduceLeDiff, Nat.reduceEqDiff, Nat.reduceAdd, Nat.reduceMul, Nat.reduceSub, Nat.reduceBEq, Int.reduceLE, Int.reduceLT, Int.reduceToNat, Int.reduceNeg, Int.reduceEq, axt, ftK, ft3, pickP, AScope, AAll, pickQ, ftQ, inHeap, tys]
  exact ⟨_, rfl, rfl⟩
theorem cHtPut0 {H : AH} {n : Nat} (k x : Int) : HCalls Try.prog 75 [.sc (.pointer none), .sc (.int .u64 k), .sc (.int .i32 x)] H n fun r H' n' => H' = H ∧ n' = n := by
  refine HCalls.walk Try.func75 rfl rfl Try.ntmps75 Try.results75 (by simp) ?_; simp (maxSteps := 400000) (dsimp := false) only [axs, AThen, ABlock, dstsOk, AStep, callsF, AWant, aop, AS.ev, AS.put, upd, AS.bound, abin, aint, aload, astore, cellsAt, AV.cells, alen, elems, AV.int?, FPost, aresL, ares1, pack, afill, splice, Value.oneCell', Nat.reduceLT, Nat.reduceLeDiff, Nat.reduceEqDiff, Nat.reduceAdd, Nat.reduceMul, Nat.reduceSub, Nat.reduceBEq, Int.reduceLE, Int.reduceLT, Int.reduceToNat, Int.reduceNeg, Int.reduceEq, axt, ftK, ft3, pickP, AScope, AAll, pickQ, ftQ, inHeap, tys]
  exact ⟨_, rfl⟩
theorem cHtDelete0 {H : AH} {n : Nat} (k : Int) : HCalls Try.prog 60 [.sc (.pointer none), .sc (.int .u64 k)] H n fun r H' n' => r = .sc (.bool false) ∧ Keeps H n H' n' := by
  refine HCalls.walk Try.func60 rfl rfl Try.ntmps60 Try.results60 (by simp) ?_; simp (maxSteps := 400000) (dsimp := false) only [axs, AThen, ABlock, dstsOk, AStep, callsF, AWant, aop, AS.ev, AS.put, upd, AS.bound, abin, aint, aload, astore, cellsAt, AV.cells, alen, elems, AV.int?, FPost, aresL, ares1, pack, afill, splice, Value.oneCell', Nat.reduceLT, Nat.reduceLeDiff, Nat.reduceEqDiff, Nat.reduceAdd, Nat.reduceMul, Nat.reduceSub, Nat.reduceBEq, Int.reduceLE, Int.reduceLT, Int.reduceToNat, Int.reduceNeg, Int.reduceEq, axt, ftK, ft3, pickP, AScope, AAll, pickQ, ftQ, inHeap, tys]
  exact ⟨_, rfl, rfl, (Keeps.refl H n).upd⟩
def atF (T : Tb) (i : Int) : Sl3 := if 0 ≤ i ∧ i < T.length then sl T i.toNat else z3
theorem apart_D {N x y : Nat} (h : Pw N) (hx : x < N) (hy : y < N) : apartF x y N = (D N x y : Int) := by
  obtain ⟨p, h1, h2, rfl⟩ := h
  have e : (((2 ^ p : Nat)) : Int) = (2 : Int) ^ p := by push_cast; rfl
  rw [e, apartF_eq (by omega) (by omega) (by omega) (by omega) (by omega), ← e, emod_two (by omega) (by omega) (by omega)]
  unfold D
  split <;> split <;> omega
end Go.Al
end
