/- Numbers by keys, in slots: of rows alone: to take a key out: what stands behind is shifted back, or laid anew. Conditions: none. -/
import Derived.Test.YtdebjhjnpomlmaaHx1
set_option linter.unusedVariables false
set_option linter.unusedSimpArgs false
set_option maxHeartbeats 1600000
namespace Go.Al
/-- Behind a place q there are c slots that are full; then comes one that isn't. -/
structure IsCl (N : Nat) (T : Tb) (q c : Nat) : Prop where
  lt : c + 1 < N
  on : ∀ j, 1 ≤ j → j ≤ c → (sl T (adv N q j)).full = true
  off : (sl T (adv N q (c + 1))).full = false
def clr (N q : Nat) (T : Tb) : Nat → Tb
  | 0 => T.set q z3
  | m + 1 => (clr N q T m).set (adv N q (m + 1)) z3
def lay1 (N : Nat) (h : Int → Nat) (U : Tb) (s : Sl3) : Tb := U.set (hFind N h U s.key) s
def rel (N : Nat) (h : Int → Nat) (T : Tb) (q c : Nat) : Nat → Tb
  | 0 => clr N q T c
  | j + 1 => lay1 N h (rel N h T q c j) (sl T (adv N q (j + 1)))
def shf (N : Nat) (h : Int → Nat) (T : Tb) (q : Nat) : Nat → Tb × Nat
  | 0 => (T, q)
  | j + 1 => if D N (h (sl T (adv N q (j + 1))).key) (adv N q (j + 1)) ≥ D N (shf N h T q j).2 (adv N q (j + 1)) then ((shf N h T q j).1.set (shf N h T q j).2 (sl T (adv N q (j + 1))), adv N q (j + 1)) else shf N h T q j
def cnt (T : Tb) : Nat := T.countP (·.full)
theorem clr_len (N q : Nat) (T : Tb) : ∀ m, (clr N q T m).length = T.length
  | 0 => by simp [clr]
  | m + 1 => by simp [clr, clr_len N q T m]
theorem clr_sl {N q : Nat} {T : Tb} (hl : T.length = N) (hq : q < N) : ∀ (m r : Nat), m < N → r < N → sl (clr N q T m) r = if D N q r ≤ m then z3 else sl T r
  | 0, r, hm, hr => by
    unfold clr
    rw [sl_set (by omega)]
    by_cases e : r = q
    · subst e; simp [D]
    · have : ¬ D N q r ≤ 0 := by
        intro h
        apply e
        have := adv_D hq hr
        rw [show D N q r = 0 by omega, adv_zero hq] at this
        exact this.symm
      rw [if_neg e, if_neg this]
  | m + 1, r, hm, hr => by
    unfold clr
    rw [sl_set (by rw [clr_len, hl]; exact adv_lt hq (by omega)), clr_sl hl hq m r (by omega) hr]
    by_cases e : r = adv N q (m + 1)
    · have : D N q r = m + 1 := by rw [e, D_adv hq (by omega)]
      rw [if_pos e, if_pos (by omega)]
    · have : ¬ D N q r = m + 1 := fun h => e (by rw [← h, adv_D hq hr])
      rw [if_neg e]
      by_cases h1 : D N q r ≤ m
      · rw [if_pos h1, if_pos (by omega)]
      · rw [if_neg h1, if_neg (by omega)]
theorem D_zero {N q r : Nat} (hq : q < N) (hr : r < N) : D N q r = 0 ↔ r = q := by
  unfold D
  split <;> omega
theorem D_cases (N a b : Nat) : (a ≤ b ∧ D N a b = b - a) ∨ (b < a ∧ D N a b = b + N - a) := by
  unfold D
  split
  · exact .inl ⟨by assumption, rfl⟩
  · exact .inr ⟨by omega, rfl⟩
theorem cyc1 {N H q s r E c : Nat} (hH : H < N) (hq : q < N) (hs : s < N) (hr : r < N) (hE : E < N) (hDe : D N q E = c + 1) (h1 : ¬ D N q s ≤ c) (h2 : D N q r ≤ c) (h3 : D N q s ≠ c + 1) (h4 : D N H r < D N H s) : D N H E < D N H s := by
  rcases D_cases N q E with ⟨x1, e1⟩ | ⟨x1, e1⟩ <;> rcases D_cases N q s with ⟨x2, e2⟩ | ⟨x2, e2⟩ <;> rcases D_cases N q r with ⟨x3, e3⟩ | ⟨x3, e3⟩ <;> rcases D_cases N H r with ⟨x4, e4⟩ | ⟨x4, e4⟩ <;> rcases D_cases N H s with ⟨x5, e5⟩ | ⟨x5, e5⟩ <;> rcases D_cases N H E with ⟨x6, e6⟩ | ⟨x6, e6⟩ <;> omega
theorem cyc2 {N H g A r : Nat} (hH : H < N) (hg : g < N) (hA : A < N) (hr : r < N) (hfit : D N H A ≥ D N g A) (hlt : D N H r < D N H g) : D N H r < D N H A := by
  rcases D_cases N H A with ⟨x1, e1⟩ | ⟨x1, e1⟩ <;> rcases D_cases N g A with ⟨x2, e2⟩ | ⟨x2, e2⟩ <;> rcases D_cases N H r with ⟨x3, e3⟩ | ⟨x3, e3⟩ <;> rcases D_cases N H g with ⟨x4, e4⟩ | ⟨x4, e4⟩ <;> omega
theorem cyc3 {N H g A : Nat} (hH : H < N) (hg : g < N) (hA : A < N) (hlt : D N H g < D N H A) : D N H A ≥ D N g A := by
  rcases D_cases N H A with ⟨x1, e1⟩ | ⟨x1, e1⟩ <;> rcases D_cases N g A with ⟨x2, e2⟩ | ⟨x2, e2⟩ <;> rcases D_cases N H g with ⟨x4, e4⟩ | ⟨x4, e4⟩ <;> omega
theorem cyc4 {N H q A r E c j : Nat} (hH : H < N) (hq : q < N) (hA : A < N) (hr : r < N) (hE : E < N) (hDe : D N q E = c + 1) (hDa : D N q A = j + 1) (h1 : j < D N q r) (h2 : D N q r ≤ c) (h3 : D N q r ≠ j + 1) (h4 : D N H r < D N H A) : D N H E < D N H A := by
  rcases D_cases N q E with ⟨x1, e1⟩ | ⟨x1, e1⟩ <;> rcases D_cases N q A with ⟨x2, e2⟩ | ⟨x2, e2⟩ <;> rcases D_cases N q r with ⟨x3, e3⟩ | ⟨x3, e3⟩ <;> rcases D_cases N H r with ⟨x4, e4⟩ | ⟨x4, e4⟩ <;> rcases D_cases N H A with ⟨x5, e5⟩ | ⟨x5, e5⟩ <;> rcases D_cases N H E with ⟨x6, e6⟩ | ⟨x6, e6⟩ <;> omega
/-- What holds when j of those behind the hole are laid anew, or shifted. -/
structure Half (N : Nat) (h : Int → Nat) (T : Tb) (q c j : Nat) : Prop where
  hole : (shf N h T q j).2 < N
  back : D N q (shf N h T q j).2 ≤ j
  slen : (shf N h T q j).1.length = N
  rest : ∀ r, r < N → j < D N q r → sl (shf N h T q j).1 r = sl T r
  full : ∀ r, r < N → D N q r ≤ j → r ≠ (shf N h T q j).2 → (sl (shf N h T q j).1 r).full = true
  same : ∀ r, r < N → sl (rel N h T q c j) r = if r = (shf N h T q j).2 then z3 else if j < D N q r ∧ D N q r ≤ c then z3 else sl (shf N h T q j).1 r
  inv : HInv N h (rel N h T q c j)
  src : ∀ r, r < N → (sl (rel N h T q c j) r).full = true → ∃ r', r' < N ∧ sl (rel N h T q c j) r = sl T r' ∧ D N q r' ≠ 0 ∧ ¬ (j < D N q r' ∧ D N q r' ≤ c)
  dst : ∀ r', r' < N → (sl T r').full = true → D N q r' ≠ 0 → ¬ (j < D N q r' ∧ D N q r' ≤ c) → ∃ r, r < N ∧ sl (rel N h T q c j) r = sl T r'
theorem half_zero {N : Nat} {h : Int → Nat} {T : Tb} {q c : Nat} (hh : ∀ k, h k < N) (hi : HInv N h T) (hq : q < N) (hc : IsCl N T q c) : Half N h T q c 0 := by
  have hclr := clr_sl (q := q) hi.len hq c
  have hlt := hc.lt
  have he : adv N q (c + 1) < N := adv_lt hq (by omega)
  have hDe : D N q (adv N q (c + 1)) = c + 1 := D_adv hq (by omega)
  have hoff := hc.off
  refine ⟨hq, by show D N q q ≤ 0; simp [D], hi.len, fun r hr _ => rfl, ?_, ?_, ?_, ?_, ?_⟩
  · intro r hr h0 hne
    exact absurd ((D_zero hq hr).1 (by omega)) hne
  · intro r hr
    show sl (clr N q T c) r = if r = q then z3 else if 0 < D N q r ∧ D N q r ≤ c then z3 else sl T r
    rw [hclr r (by omega) hr]
    by_cases e : r = q
    · have := (D_zero hq hr).2 e
      rw [if_pos e, if_pos (by omega)]
    · have : D N q r ≠ 0 := fun h => e ((D_zero hq hr).1 h)
      rw [if_neg e]
      by_cases h1 : D N q r ≤ c
      · rw [if_pos h1, if_pos (by omega)]
      · rw [if_neg h1, if_neg (by omega)]
  · show HInv N h (clr N q T c)
    refine ⟨by rw [clr_len]; exact hi.len, ?_, ?_⟩
    · intro s r hs hr hsf hlt2
      rw [hclr s (by omega) hs] at hsf hlt2
      rw [hclr r (by omega) hr]
      by_cases h1 : D N q s ≤ c
      · rw [if_pos h1] at hsf; cases hsf
      · rw [if_neg h1] at hsf hlt2
        have hrf := hi.path s r hs hr hsf hlt2
        by_cases h2 : D N q r ≤ c
        · exfalso
          have hse : s ≠ adv N q (c + 1) := by
            rintro e
            rw [e, hoff] at hsf; cases hsf
          have hDs : D N q s ≠ c + 1 := fun e => hse (by rw [← e, adv_D hq hs])
          have hH := hh (sl T s).key
          have hpath := hi.path s (adv N q (c + 1)) hs he hsf (cyc1 hH hq hs hr he hDe h1 h2 hDs hlt2)
          rw [hoff] at hpath; cases hpath
        · rw [if_neg h2]; exact hrf
    · intro s r hs hr hsf hrf hkk
      rw [hclr s (by omega) hs] at hsf hkk
      rw [hclr r (by omega) hr] at hrf hkk
      by_cases h1 : D N q s ≤ c
      · rw [if_pos h1] at hsf; cases hsf
      · by_cases h2 : D N q r ≤ c
        · rw [if_pos h2] at hrf; cases hrf
        · rw [if_neg h1] at hsf hkk
          rw [if_neg h2] at hrf hkk
          exact hi.apart s r hs hr hsf hrf hkk
  · intro r hr hf
    have hf : (sl (clr N q T c) r).full = true := hf
    show ∃ r', r' < N ∧ sl (clr N q T c) r = sl T r' ∧ _
    rw [hclr r (by omega) hr] at hf ⊢
    by_cases h1 : D N q r ≤ c
    · rw [if_pos h1] at hf; cases hf
    · rw [if_neg h1]
      exact ⟨r, hr, rfl, by omega, by omega⟩
  · intro r hr hf h0 hn
    refine ⟨r, hr, ?_⟩
    show sl (clr N q T c) r = _
    rw [hclr r (by omega) hr, if_neg (by omega)]
theorem half_succ {N : Nat} {h : Int → Nat} {T : Tb} {q c j : Nat} (hh : ∀ k, h k < N) (hi : HInv N h T) (hq : q < N) (hc : IsCl N T q c) (hj : j + 1 ≤ c) (hf : Half N h T q c j) : Half N h T q c (j + 1) := by
  have hlt := hc.lt
  have he : adv N q (c + 1) < N := adv_lt hq (by omega)
  have hDe : D N q (adv N q (c + 1)) = c + 1 := D_adv hq (by omega)
  have hoff := hc.off
  have hat : adv N q (j + 1) < N := adv_lt hq (by omega)
  have hDat : D N q (adv N q (j + 1)) = j + 1 := D_adv hq (by omega)
  have hxf := hc.on (j + 1) (by omega) hj
  obtain ⟨f1, f2, f3, f4, f5, f6, f7, f8, f9⟩ := hf
  have hsuc : shf N h T q (j + 1) = if D N (h (sl T (adv N q (j + 1))).key) (adv N q (j + 1)) ≥ D N (shf N h T q j).2 (adv N q (j + 1)) then ((shf N h T q j).1.set (shf N h T q j).2 (sl T (adv N q (j + 1))), adv N q (j + 1)) else shf N h T q j := rfl
  have hrel : rel N h T q c (j + 1) = lay1 N h (rel N h T q c j) (sl T (adv N q (j + 1))) := rfl
  generalize shf N h T q j = SH at *
  obtain ⟨S, g⟩ := SH
  simp only at f1 f2 f3 f4 f5 f6 f7 f8 f9 hsuc
  generalize rel N h T q c j = R at *
  have hRl := f7.len
  have hH := hh (sl T (adv N q (j + 1))).key
  have hpath := fun r hr hd => hi.path (adv N q (j + 1)) r hat hr hxf hd
  have hgat : g ≠ adv N q (j + 1) := by rintro rfl; omega
  have hxe : sl T (adv N q (j + 1)) = ⟨(sl T (adv N q (j + 1))).key, (sl T (adv N q (j + 1))).n, true⟩ := by
    rw [← hxf]
  -- the keys that are there are other ones
  have hkeys : ∀ r, r < N → (sl R r).full = true → (sl R r).key ≠ (sl T (adv N q (j + 1))).key := by
    intro r hr hrf hk
    obtain ⟨r', h1, h2, h3, h4⟩ := f8 r hr hrf
    rw [h2] at hk hrf
    have := hi.apart r' (adv N q (j + 1)) h1 hat hrf hxf hk
    rw [this, hDat] at h4
    omega
  -- on the way to the place
  have hway : ∀ p r, p < N → r < N → (p = g ∨ p = adv N q (j + 1)) → (p = g → D N (h (sl T (adv N q (j + 1))).key) (adv N q (j + 1)) ≥ D N g (adv N q (j + 1))) → (p = adv N q (j + 1) → ¬ D N (h (sl T (adv N q (j + 1))).key) (adv N q (j + 1)) ≥ D N g (adv N q (j + 1))) →
      D N (h (sl T (adv N q (j + 1))).key) r < D N (h (sl T (adv N q (j + 1))).key) p → (sl R r).full = true := by
    intro p r hp hr hpg hfit hnfit hlt2
    have hlt3 : D N (h (sl T (adv N q (j + 1))).key) r < D N (h (sl T (adv N q (j + 1))).key) (adv N q (j + 1)) := by
      rcases hpg with rfl | rfl
      · exact cyc2 hH hp hat hr (hfit rfl) hlt2
      · exact hlt2
    have hrf := hpath r hr hlt3
    have hrg : r ≠ g := by
      rintro rfl
      rcases hpg with rfl | rfl
      · omega
      · exact hnfit rfl (cyc3 hH hr hat hlt2)
    have hrc : ¬ (j < D N q r ∧ D N q r ≤ c) := by
      rintro ⟨g1, g2⟩
      have hra : r ≠ adv N q (j + 1) := by rintro rfl; omega
      have hDr : D N q r ≠ j + 1 := fun e => hra (by rw [← e, adv_D hq hr])
      have hef := hpath (adv N q (c + 1)) he (cyc4 hH hq hat hr he hDe hDat g1 g2 hDr hlt3)
      rw [hoff] at hef; cases hef
    rw [f6 r hr, if_neg hrg, if_neg hrc]
    by_cases h1 : D N q r ≤ j
    · exact f5 r hr h1 hrg
    · rw [f4 r hr (by omega)]; exact hrf
  by_cases hfit : D N (h (sl T (adv N q (j + 1))).key) (adv N q (j + 1)) ≥ D N g (adv N q (j + 1))
  · -- shifted
    rw [if_pos hfit] at hsuc
    have hfind : IsFind N h R (sl T (adv N q (j + 1))).key g := by
      refine ⟨f1, .inl (by rw [f6 g f1, if_pos rfl]; rfl), fun r hr hd => ?_⟩
      have := hway g r f1 hr (.inl rfl) (fun _ => hfit) (fun e => absurd e hgat) hd
      exact ⟨this, hkeys r hr this⟩
    have hR2 : rel N h T q c (j + 1) = R.set g (sl T (adv N q (j + 1))) := by rw [hrel]; unfold lay1; rw [hFind_is hH hfind]
    have hinv := f7.lay (n := (sl T (adv N q (j + 1))).n) hH hfind
    rw [← hxe] at hinv
    generalize hX : sl T (adv N q (j + 1)) = X at *
    generalize hA : adv N q (j + 1) = A at *
    have hslR : ∀ r, sl (R.set g X) r = if r = g then X else sl R r := fun r => sl_set (by rw [hRl]; exact f1)
    have hslS : ∀ r, sl (S.set g X) r = if r = g then X else sl S r := fun r => sl_set (by rw [f3]; exact f1)
    constructor <;> (try rw [hsuc]) <;> (try rw [hR2])
    · exact hat
    · show D N q A ≤ j + 1; omega
    · show (S.set g X).length = N; rw [List.length_set]; exact f3
    · intro r hr hd
      show sl (S.set g X) r = _
      rw [hslS, if_neg (by rintro rfl; omega)]
      exact f4 r hr (by omega)
    · intro r hr hd hne
      show (sl (S.set g X) r).full = true
      have hne : r ≠ A := hne
      rw [hslS]
      by_cases e : r = g
      · rw [if_pos e]; exact hxf
      · rw [if_neg e]
        have : D N q r ≠ j + 1 := fun e2 => hne (by rw [← hA, ← e2, adv_D hq hr])
        exact f5 r hr (by omega) e
    · intro r hr
      show sl (R.set g X) r = if r = A then z3 else if j + 1 < D N q r ∧ D N q r ≤ c then z3 else sl (S.set g X) r
      rw [hslR, hslS]
      by_cases e : r = g
      · have : ¬ r = A := by rw [e]; exact hgat
        have h2 : ¬ (j + 1 < D N q r ∧ D N q r ≤ c) := by rw [e]; omega
        rw [if_pos e, if_neg this, if_neg h2]
        simp [e]
      · rw [if_neg e, f6 r hr, if_neg e]
        by_cases e2 : r = A
        · have : j < D N q r ∧ D N q r ≤ c := by rw [e2]; omega
          rw [if_pos this, if_pos e2]
        · have h3 : D N q r ≠ j + 1 := fun e3 => e2 (by rw [← hA, ← e3, adv_D hq hr])
          rw [if_neg e2]
          by_cases h4 : j < D N q r ∧ D N q r ≤ c
          · rw [if_pos h4, if_pos (by omega)]
          · rw [if_neg h4, if_neg (by omega), if_neg e]
    · exact hinv
    · intro r hr hrf
      rw [hslR] at hrf ⊢
      by_cases e : r = g
      · rw [if_pos e]
        exact ⟨A, hat, hX.symm, by omega, by omega⟩
      · rw [if_neg e] at hrf ⊢
        obtain ⟨r', h1, h2, h3, h4⟩ := f8 r hr hrf
        exact ⟨r', h1, h2, h3, by omega⟩
    · intro r' hr' hrf h0 hn
      by_cases e : r' = A
      · exact ⟨g, f1, by rw [hslR, if_pos rfl, e, hX]⟩
      · have h3 : D N q r' ≠ j + 1 := fun e3 => e (by rw [← hA, ← e3, adv_D hq hr'])
        obtain ⟨r, h1, h2⟩ := f9 r' hr' hrf h0 (by omega)
        refine ⟨r, h1, ?_⟩
        have : r ≠ g := by
          rintro rfl
          rw [f6 r f1, if_pos rfl] at h2
          rw [← h2] at hrf; cases hrf
        rw [hslR, if_neg this]; exact h2
  · -- it stays
    rw [if_neg hfit] at hsuc
    have hfind : IsFind N h R (sl T (adv N q (j + 1))).key (adv N q (j + 1)) := by
      refine ⟨hat, .inl ?_, fun r hr hd => ?_⟩
      · rw [f6 _ hat, if_neg (Ne.symm hgat), if_pos (by omega)]; rfl
      · have := hway (adv N q (j + 1)) r hat hr (.inr rfl) (fun e => absurd e.symm hgat) (fun _ => hfit) hd
        exact ⟨this, hkeys r hr this⟩
    have hR2 : rel N h T q c (j + 1) = R.set (adv N q (j + 1)) (sl T (adv N q (j + 1))) := by rw [hrel]; unfold lay1; rw [hFind_is hH hfind]
    have hinv := f7.lay (n := (sl T (adv N q (j + 1))).n) hH hfind
    rw [← hxe] at hinv
    have hSA := f4 _ hat (by omega)
    generalize hX : sl T (adv N q (j + 1)) = X at *
    generalize hA : adv N q (j + 1) = A at *
    have hslR : ∀ r, sl (R.set A X) r = if r = A then X else sl R r := fun r => sl_set (by rw [hRl]; exact hat)
    constructor <;> (try rw [hsuc]) <;> (try rw [hR2])
    · exact f1
    · show D N q g ≤ j + 1; omega
    · exact f3
    · intro r hr hd
      exact f4 r hr (by omega)
    · intro r hr hd hne
      show (sl S r).full = true
      have hne : r ≠ g := hne
      by_cases e : r = A
      · rw [e, hSA]; exact hxf
      · have : D N q r ≠ j + 1 := fun e2 => e (by rw [← hA, ← e2, adv_D hq hr])
        exact f5 r hr (by omega) hne
    · intro r hr
      show sl (R.set A X) r = if r = g then z3 else if j + 1 < D N q r ∧ D N q r ≤ c then z3 else sl S r
      rw [hslR]
      by_cases e : r = A
      · have h1 : ¬ r = g := by rw [e]; exact Ne.symm hgat
        have h2 : ¬ (j + 1 < D N q r ∧ D N q r ≤ c) := by rw [e]; omega
        rw [if_pos e, if_neg h1, if_neg h2, e, hSA]
      · rw [if_neg e, f6 r hr]
        have h3 : D N q r ≠ j + 1 := fun e3 => e (by rw [← hA, ← e3, adv_D hq hr])
        by_cases e2 : r = g
        · rw [if_pos e2, if_pos e2]
        · rw [if_neg e2, if_neg e2]
          by_cases h4 : j < D N q r ∧ D N q r ≤ c
          · rw [if_pos h4, if_pos (by omega)]
          · rw [if_neg h4, if_neg (by omega)]
    · exact hinv
    · intro r hr hrf
      rw [hslR] at hrf ⊢
      by_cases e : r = A
      · rw [if_pos e]
        exact ⟨A, hat, hX.symm, by omega, by omega⟩
      · rw [if_neg e] at hrf ⊢
        obtain ⟨r', h1, h2, h3, h4⟩ := f8 r hr hrf
        exact ⟨r', h1, h2, h3, by omega⟩
    · intro r' hr' hrf h0 hn
      by_cases e : r' = A
      · exact ⟨A, hat, by rw [hslR, if_pos rfl, e, hX]⟩
      · have h3 : D N q r' ≠ j + 1 := fun e3 => e (by rw [← hA, ← e3, adv_D hq hr'])
        obtain ⟨r, h1, h2⟩ := f9 r' hr' hrf h0 (by omega)
        refine ⟨r, h1, ?_⟩
        have : r ≠ A := by
          rintro rfl
          rw [f6 r hat, if_neg (Ne.symm hgat), if_pos (by omega)] at h2
          rw [← h2] at hrf; cases hrf
        rw [hslR, if_neg this]; exact h2
theorem half_all {N : Nat} {h : Int → Nat} {T : Tb} {q c : Nat} (hh : ∀ k, h k < N) (hi : HInv N h T) (hq : q < N) (hc : IsCl N T q c) : ∀ j, j ≤ c → Half N h T q c j
  | 0, _ => half_zero hh hi hq hc
  | j + 1, hj => half_succ hh hi hq hc hj (half_all hh hi hq hc j (by omega))
/-- To shift back is to lay anew. -/
theorem shift_is {N : Nat} {h : Int → Nat} {T : Tb} {q c : Nat} (hh : ∀ k, h k < N) (hi : HInv N h T) (hq : q < N) (hc : IsCl N T q c) : (shf N h T q c).1.set (shf N h T q c).2 z3 = rel N h T q c c := by
  obtain ⟨f1, f2, f3, f4, f5, f6, f7, f8, f9⟩ := half_all hh hi hq hc c (Nat.le_refl _)
  refine sl_ext (by rw [List.length_set, f3, f7.len]) fun r hr => ?_
  rw [List.length_set, f3] at hr
  rw [sl_set (by rw [f3]; exact f1), f6 r hr]
  by_cases e : r = (shf N h T q c).2
  · rw [if_pos e, if_pos e]
  · rw [if_neg e, if_neg e, if_neg (by omega)]
end Go.Al
