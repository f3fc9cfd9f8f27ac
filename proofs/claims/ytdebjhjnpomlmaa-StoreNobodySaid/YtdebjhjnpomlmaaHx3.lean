/- Numbers by keys, in slots: of rows alone: what acts make, and what a table keeps. Conditions: none. -/
import Derived.Test.YtdebjhjnpomlmaaHx2
import Derived.Test.YtdebjhjnpomlmaaMx2
set_option linter.unusedVariables false
set_option linter.unusedSimpArgs false
set_option maxHeartbeats 1600000
namespace Go.Al
/-- A key's home in a table of so many slots. -/
def hm (N : Nat) (k : Int) : Nat := (homeF k (N : Int)).toNat % N
theorem hm_lt {N : Nat} (h : 0 < N) (k : Int) : hm N k < N := Nat.mod_lt _ h
def hF (T : Tb) (k : Int) : Nat := hFind T.length (hm T.length) T k
def rehash (T : Tb) : Tb := T.foldl (fun U s => if s.full then lay1 (2 * T.length) (hm (2 * T.length)) U s else U) (List.replicate (2 * T.length) z3)
def big (T : Tb) : Tb := if 4 * cnt T + 4 > 3 * T.length then rehash T else T
def putT (T : Tb) (k : Int) : Tb := if (sl T (hF T k)).full then T else big T
def hPut (T : Tb) (k n : Int) : Tb := (putT T k).set (hF (putT T k) k) ⟨k, n, true⟩
def cl (N : Nat) (T : Tb) (q : Nat) : Nat → Nat → Nat
  | 0, j => j
  | f + 1, j => if (sl T (adv N q (j + 1))).full then cl N T q f (j + 1) else j
def clen (T : Tb) (q : Nat) : Nat := cl T.length T q T.length 0
def hDel (T : Tb) (k : Int) : Tb × Bool := if (sl T (hF T k)).full then (rel T.length (hm T.length) T (hF T k) (clen T (hF T k)) (clen T (hF T k)), true) else (T, false)
theorem cnt_set {T : Tb} {q : Nat} {s : Sl3} (hq : q < T.length) : cnt (T.set q s) + (if (sl T q).full then 1 else 0) = cnt T + if s.full then 1 else 0 := by
  unfold cnt
  rw [List.countP_set hq]
  have hg : sl T q = T[q] := by unfold sl; simp [List.getD_eq_getElem?_getD, hq]
  rw [hg]
  by_cases h : T[q].full = true
  · have hp : 0 < T.countP (·.full) := List.countP_pos_iff.2 ⟨T[q], List.getElem_mem hq, h⟩
    simp only [h, if_true]
    omega
  · simp only [h, if_false, Bool.false_eq_true]
    omega
theorem cnt_le (T : Tb) : cnt T ≤ T.length := List.countP_le_length
theorem room_of {T : Tb} (h : cnt T < T.length) : Room T.length T := by
  apply Classical.byContradiction
  intro hn
  have : cnt T = T.length := by
    unfold cnt
    rw [List.countP_eq_length]
    intro s hs
    obtain ⟨q, hq, rfl⟩ := List.mem_iff_getElem.1 hs
    cases e : T[q].full with
    | true => rfl
    | false =>
      exfalso
      apply hn
      refine ⟨q, hq, ?_⟩
      unfold sl
      simp [List.getD_eq_getElem?_getD, hq, e]
  omega
/-- A slot that is there. -/
def Mem (T : Tb) (s : Sl3) : Prop := s.full = true ∧ ∃ r, r < T.length ∧ sl T r = s
theorem lay_new {N : Nat} {h : Int → Nat} {U : Tb} {s : Sl3} (hh : ∀ k, h k < N) (hi : HInv N h U) (hr : Room N U) (hs : s.full = true) (hk : ∀ t, Mem U t → t.key ≠ s.key) :
    HInv N h (lay1 N h U s) ∧ cnt (lay1 N h U s) = cnt U + 1 ∧ (lay1 N h U s).length = N ∧ ∀ t, Mem (lay1 N h U s) t ↔ t = s ∨ Mem U t := by
  have hf := hFind_room (k := s.key) (hh _) hr
  have hl := hi.len
  unfold lay1
  generalize hFind N h U s.key = q at *
  have hqf : (sl U q).full = false := by
    cases e : (sl U q).full with
    | false => rfl
    | true =>
      rcases hf.hit with e2 | e2
      · rw [e] at e2; cases e2
      · exact absurd e2 (hk _ ⟨e, q, by rw [hl]; exact hf.lt, rfl⟩)
  have hse : s = ⟨s.key, s.n, true⟩ := by rw [← hs]
  refine ⟨?_, ?_, by rw [List.length_set]; exact hl, ?_⟩
  · rw [hse]; exact hi.lay (hh _) hf
  · have := cnt_set (T := U) (q := q) (s := s) (by rw [hl]; exact hf.lt)
    simp only [hqf, hs] at this
    simpa using this
  · intro t
    constructor
    · rintro ⟨h1, r, h2, h3⟩
      rw [List.length_set] at h2
      rw [sl_set (by rw [hl]; exact hf.lt)] at h3
      by_cases e : r = q
      · rw [if_pos e] at h3; exact .inl h3.symm
      · rw [if_neg e] at h3; exact .inr ⟨h1, r, h2, h3⟩
    · rintro (rfl | ⟨h1, r, h2, h3⟩)
      · refine ⟨hs, q, by rw [List.length_set, hl]; exact hf.lt, ?_⟩
        rw [sl_set (by rw [hl]; exact hf.lt), if_pos rfl]
      · refine ⟨h1, r, by rw [List.length_set]; exact h2, ?_⟩
        have : r ≠ q := by rintro rfl; rw [h3] at hqf; rw [hqf] at h1; cases h1
        rw [sl_set (by rw [hl]; exact hf.lt), if_neg this]
        exact h3
theorem sl_rep (N r : Nat) : sl (List.replicate N z3) r = z3 := by
  unfold sl
  by_cases h : r < N
  · simp [List.getD_eq_getElem?_getD, h]
  · simp [List.getD_eq_getElem?_getD, List.getElem?_replicate, h]
theorem empty_inv (N : Nat) (h : Int → Nat) : HInv N h (List.replicate N z3) := by
  refine ⟨by simp, ?_, ?_⟩
  · intro q r _ _ hf; rw [sl_rep] at hf; cases hf
  · intro q r _ _ hf; rw [sl_rep] at hf; cases hf
theorem empty_cnt (N : Nat) : cnt (List.replicate N z3) = 0 := by
  unfold cnt
  rw [List.countP_eq_zero]
  intro s hs
  rw [List.eq_of_mem_replicate hs]
  simp [z3]
theorem empty_mem (N : Nat) (t : Sl3) : ¬ Mem (List.replicate N z3) t := by
  rintro ⟨h1, r, h2, h3⟩
  rw [sl_rep] at h3
  rw [← h3] at h1; cases h1
/-- Laid one by one. -/
def relay (N : Nat) (h : Int → Nat) (U : Tb) (l : List Sl3) : Tb := l.foldl (fun U s => if s.full then lay1 N h U s else U) U
theorem relay_all {N : Nat} {h : Int → Nat} (hh : ∀ k, h k < N) : ∀ (l : List Sl3) (U : Tb), HInv N h U → cnt U + l.countP (·.full) < N → (∀ t, Mem U t → ∀ s ∈ l, s.full = true → t.key ≠ s.key) → (l.Pairwise fun a b => a.full = true → b.full = true → a.key ≠ b.key) →
    HInv N h (relay N h U l) ∧ cnt (relay N h U l) = cnt U + l.countP (·.full) ∧ ∀ t, Mem (relay N h U l) t ↔ Mem U t ∨ (t.full = true ∧ t ∈ l)
  | [], U, hi, hc, hk, hp => ⟨hi, by simp [relay], fun t => by simp [relay]⟩
  | s :: l, U, hi, hc, hk, hp => by
    rw [List.pairwise_cons] at hp
    have hstep : relay N h U (s :: l) = relay N h (if s.full then lay1 N h U s else U) l := rfl
    rw [hstep]
    by_cases hs : s.full = true
    · have hcs : (s :: l).countP (·.full) = l.countP (·.full) + 1 := by simp [List.countP_cons, hs]
      rw [hcs] at hc ⊢
      have hlen := hi.len
      obtain ⟨g1, g2, g3, g4⟩ := lay_new hh hi (by have := room_of (T := U) (by omega); rwa [hlen] at this) hs (fun t ht => hk t ht s (by simp) hs)
      rw [if_pos hs]
      obtain ⟨q1, q2, q3⟩ := relay_all hh l (lay1 N h U s) g1 (by omega) (by
        intro t ht s' hs' hf'
        rcases (g4 t).1 ht with rfl | ht
        · exact hp.1 s' hs' hs hf'
        · exact hk t ht s' (by simp [hs']) hf') hp.2
      refine ⟨q1, by omega, fun t => ?_⟩
      rw [q3 t, g4 t]
      constructor
      · rintro ((rfl | h1) | ⟨h1, h2⟩)
        · exact .inr ⟨hs, by simp⟩
        · exact .inl h1
        · exact .inr ⟨h1, by simp [h2]⟩
      · rintro (h1 | ⟨h1, h2⟩)
        · exact .inl (.inr h1)
        · rcases List.mem_cons.1 h2 with rfl | h2
          · exact .inl (.inl rfl)
          · exact .inr ⟨h1, h2⟩
    · have hcs : (s :: l).countP (·.full) = l.countP (·.full) := by simp [List.countP_cons, hs]
      rw [hcs] at hc ⊢
      rw [if_neg hs]
      obtain ⟨q1, q2, q3⟩ := relay_all hh l U hi hc (fun t ht s' hs' hf' => hk t ht s' (by simp [hs']) hf') hp.2
      refine ⟨q1, q2, fun t => ?_⟩
      rw [q3 t]
      constructor
      · rintro (h1 | ⟨h1, h2⟩)
        · exact .inl h1
        · exact .inr ⟨h1, by simp [h2]⟩
      · rintro (h1 | ⟨h1, h2⟩)
        · exact .inl h1
        · rcases List.mem_cons.1 h2 with rfl | h2
          · exact absurd h1 hs
          · exact .inr ⟨h1, h2⟩
theorem mem_iff {T : Tb} {t : Sl3} : Mem T t ↔ t.full = true ∧ t ∈ T := by
  constructor
  · rintro ⟨h1, r, h2, rfl⟩
    refine ⟨h1, ?_⟩
    have := sl_get h2
    exact List.mem_of_getElem? this
  · rintro ⟨h1, h2⟩
    obtain ⟨r, hr, rfl⟩ := List.mem_iff_getElem.1 h2
    refine ⟨h1, r, hr, ?_⟩
    unfold sl
    simp [List.getD_eq_getElem?_getD, hr]
theorem inv_pair {N : Nat} {h : Int → Nat} {T : Tb} (hi : HInv N h T) : T.Pairwise fun a b => a.full = true → b.full = true → a.key ≠ b.key := by
  rw [List.pairwise_iff_getElem]
  intro i j h1 h2 hij f1 f2 he
  have hl := hi.len
  have e1 : sl T i = T[i] := by unfold sl; simp [List.getD_eq_getElem?_getD, h1]
  have e2 : sl T j = T[j] := by unfold sl; simp [List.getD_eq_getElem?_getD, h2]
  have := hi.apart i j (by omega) (by omega) (by rw [e1]; exact f1) (by rw [e2]; exact f2) (by rw [e1, e2]; exact he)
  omega
theorem rehash_all {T : Tb} (hl : 0 < T.length) {h : Int → Nat} (hi : HInv T.length h T) :
    HInv (2 * T.length) (hm (2 * T.length)) (rehash T) ∧ cnt (rehash T) = cnt T ∧ ∀ t, Mem (rehash T) t ↔ Mem T t := by
  have hc := cnt_le T
  obtain ⟨q1, q2, q3⟩ := relay_all (N := 2 * T.length) (h := hm (2 * T.length)) (fun k => hm_lt (by omega) k) T (List.replicate (2 * T.length) z3) (empty_inv _ _) (by rw [empty_cnt]; show 0 + cnt T < _; omega) (fun t ht => absurd ht (empty_mem _ _)) (inv_pair hi)
  refine ⟨q1, by rw [empty_cnt, Nat.zero_add] at q2; exact q2, fun t => ?_⟩
  rw [mem_iff (T := T)]
  refine (q3 t).trans ⟨fun h => ?_, fun h => .inr h⟩
  rcases h with h | h
  · exact absurd h (empty_mem _ _)
  · exact h
/-- What a table keeps, that acts made. -/
structure HOk (T : Tb) : Prop where
  pow : ∃ p, 3 ≤ p ∧ p ≤ 20 ∧ T.length = 2 ^ p
  inv : HInv T.length (hm T.length) T
  load : 4 * cnt T ≤ 3 * T.length
  keys : ∀ t, Mem T t → 0 ≤ t.key ∧ t.key < 18446744073709551616
theorem HOk.len {T : Tb} (h : HOk T) : 8 ≤ T.length ∧ T.length ≤ 1048576 := by
  obtain ⟨p, h1, h2, h3⟩ := h.pow
  rw [h3]
  have a1 : 2 ^ 3 ≤ 2 ^ p := Nat.pow_le_pow_right (by omega) h1
  have a2 : 2 ^ p ≤ 2 ^ 20 := Nat.pow_le_pow_right (by omega) h2
  exact ⟨by simpa using a1, by simpa using a2⟩
theorem HOk.room {T : Tb} (h : HOk T) : Room T.length T := by
  have := h.len
  have := h.load
  exact room_of (by omega)
theorem HOk.find {T : Tb} (h : HOk T) (k : Int) : IsFind T.length (hm T.length) T k (hF T k) := hFind_room (hm_lt (by have := h.len; omega) k) h.room
/-- A key is there just if its slot is full. -/
theorem HOk.there {T : Tb} (h : HOk T) (k : Int) : ((sl T (hF T k)).full = true → Mem T (sl T (hF T k)) ∧ (sl T (hF T k)).key = k) ∧ ((sl T (hF T k)).full = false → ∀ t, Mem T t → t.key ≠ k) := by
  have hf := h.find k
  refine ⟨fun e => ⟨⟨e, _, hf.lt, rfl⟩, ?_⟩, fun e t ht hk => ?_⟩
  · rcases hf.hit with e2 | e2
    · rw [e] at e2; cases e2
    · exact e2
  · obtain ⟨h1, r, h2, h3⟩ := ht
    have := h.inv.found (hm_lt (by have := h.len; omega) k) hf h2 (by rw [h3]; exact h1) (by rw [h3]; exact hk)
    rw [this] at h3
    rw [h3, h1] at e; cases e
theorem putT_all {T : Tb} (h : HOk T) (hs : T.length ≤ 524288) (k : Int) : HOk (putT T k) ∧ (∀ t, Mem (putT T k) t ↔ Mem T t) ∧ cnt (putT T k) = cnt T ∧ ((sl T (hF T k)).full = false → 4 * cnt T + 4 ≤ 3 * (putT T k).length) ∧ ((putT T k).length = T.length ∨ ((putT T k).length = 2 * T.length ∧ 4 * cnt T + 4 > 3 * T.length ∧ (sl T (hF T k)).full = false)) := by
  have hl := h.len
  unfold putT
  by_cases hf : (sl T (hF T k)).full = true
  · rw [if_pos hf]
    exact ⟨h, fun t => Iff.rfl, rfl, fun e => (by rw [hf] at e; cases e), .inl rfl⟩
  · rw [if_neg hf]
    unfold big
    by_cases hb : 4 * cnt T + 4 > 3 * T.length
    · rw [if_pos hb]
      obtain ⟨q1, q2, q3⟩ := rehash_all (by omega) h.inv
      obtain ⟨p, p1, p2, p3⟩ := h.pow
      have hlr := q1.len
      have hload := h.load
      refine ⟨⟨⟨p + 1, by omega, ?_, by rw [hlr, p3, Nat.pow_succ]; omega⟩, by rw [hlr]; exact q1, by rw [q2, hlr]; omega, fun t ht => h.keys t ((q3 t).1 ht)⟩, q3, q2, fun _ => by rw [hlr]; omega, .inr ⟨hlr, hb, by simpa using hf⟩⟩
      have : ¬ 20 ≤ p := by
        intro hp
        have : 2 ^ 20 ≤ 2 ^ p := Nat.pow_le_pow_right (by omega) hp
        have e : (2 : Nat) ^ 20 = 1048576 := by decide
        omega
      omega
    · rw [if_neg hb]
      exact ⟨h, fun t => Iff.rfl, rfl, fun _ => by omega, .inl rfl⟩
/-- What a put comes to. -/
theorem put_all {T : Tb} (h : HOk T) (hs : T.length ≤ 524288) {k : Int} (k0 : 0 ≤ k) (k1 : k < 18446744073709551616) (n : Int) : HOk (hPut T k n) ∧ (∀ t, Mem (hPut T k n) t ↔ t = ⟨k, n, true⟩ ∨ (Mem T t ∧ t.key ≠ k)) ∧ cnt (hPut T k n) = (if (sl T (hF T k)).full then cnt T else cnt T + 1) ∧ (hPut T k n).length = (putT T k).length ∧ (sl (putT T k) (hF (putT T k) k)).full = (sl T (hF T k)).full := by
  obtain ⟨g1, g2, g3, g4, g5⟩ := putT_all h hs k
  have hth := h.there k
  have hth2 := g1.there k
  have hf := g1.find k
  have hsame : (sl (putT T k) (hF (putT T k) k)).full = (sl T (hF T k)).full := by
    cases e : (sl T (hF T k)).full with
    | true =>
      cases e2 : (sl (putT T k) (hF (putT T k) k)).full with
      | true => rfl
      | false =>
        obtain ⟨m1, m2⟩ := hth.1 e
        exact absurd m2 (hth2.2 e2 _ ((g2 _).2 m1))
    | false =>
      cases e2 : (sl (putT T k) (hF (putT T k) k)).full with
      | false => rfl
      | true =>
        obtain ⟨m1, m2⟩ := hth2.1 e2
        exact absurd m2 (hth.2 e _ ((g2 _).1 m1))
  have hcs := cnt_set (T := putT T k) (q := hF (putT T k) k) (s := ⟨k, n, true⟩) hf.lt
  have hlen : (hPut T k n).length = (putT T k).length := by unfold hPut; rw [List.length_set]
  have hmem : ∀ t, Mem (hPut T k n) t ↔ t = ⟨k, n, true⟩ ∨ (Mem T t ∧ t.key ≠ k) := by
    intro t
    unfold hPut
    constructor
    · rintro ⟨h1, r, h2, h3⟩
      rw [List.length_set] at h2
      rw [sl_set hf.lt] at h3
      by_cases e : r = hF (putT T k) k
      · rw [if_pos e] at h3; exact .inl h3.symm
      · rw [if_neg e] at h3
        refine .inr ⟨(g2 t).1 ⟨h1, r, h2, h3⟩, fun hk => e ?_⟩
        exact g1.inv.found (hm_lt (by have := g1.len; omega) k) hf h2 (by rw [h3]; exact h1) (by rw [h3]; exact hk)
    · rintro (rfl | ⟨hm, hk⟩)
      · refine ⟨rfl, _, by rw [List.length_set]; exact hf.lt, ?_⟩
        rw [sl_set hf.lt, if_pos rfl]
      · obtain ⟨h1, r, h2, h3⟩ := (g2 t).2 hm
        refine ⟨h1, r, by rw [List.length_set]; exact h2, ?_⟩
        have : r ≠ hF (putT T k) k := by
          rintro rfl
          rcases hf.hit with e | e
          · rw [h3, h1] at e; cases e
          · rw [h3] at e; exact hk e
        rw [sl_set hf.lt, if_neg this]
        exact h3
  have hcnt : cnt (hPut T k n) = (if (sl T (hF T k)).full then cnt T else cnt T + 1) := by
    show cnt ((putT T k).set _ _) = _
    rw [hsame, g3] at hcs
    by_cases e : (sl T (hF T k)).full = true
    · simp only [e, if_true] at hcs ⊢; omega
    · simp only [e, if_true] at hcs ⊢; simpa using hcs
  refine ⟨⟨by rw [hlen]; exact g1.pow, ?_, ?_, ?_⟩, hmem, hcnt, hlen, hsame⟩
  · rw [hlen]; exact g1.inv.lay (hm_lt (by have := g1.len; omega) k) hf
  · have hgl := g1.load
    rw [hcnt, hlen]
    by_cases e : (sl T (hF T k)).full = true
    · rw [if_pos e]; omega
    · rw [if_neg e]
      have := g4 (by simpa using e)
      omega
  · intro t ht
    rcases (hmem t).1 ht with rfl | ⟨hm, _⟩
    · exact ⟨k0, k1⟩
    · exact h.keys t hm
theorem clen_is {T : Tb} {q : Nat} (hq : q < T.length) (hf : (sl T q).full = true) (hr : Room T.length T) : IsCl T.length T q (clen T q) := by
  obtain ⟨e, e1, e2⟩ := hr
  have hne : e ≠ q := by rintro rfl; rw [hf] at e2; cases e2
  have hD : D T.length q e ≠ 0 := fun h => hne ((D_zero hq e1).1 h)
  have hDl := D_lt hq e1
  have gen : ∀ (f j : Nat), j + f = T.length → (∀ i, 1 ≤ i → i ≤ j → (sl T (adv T.length q i)).full = true) → j < D T.length q e → IsCl T.length T q (cl T.length T q f j) := by
    intro f
    induction f with
    | zero => intro j h1 _ h3; omega
    | succ f ih =>
      intro j h1 h2 h3
      unfold cl
      by_cases hx : (sl T (adv T.length q (j + 1))).full = true
      · rw [if_pos hx]
        refine ih (j + 1) (by omega) (fun i i1 i2 => ?_) ?_
        · by_cases e3 : i = j + 1
          · rw [e3]; exact hx
          · exact h2 i i1 (by omega)
        · have : D T.length q e ≠ j + 1 := by
            intro h4
            rw [← h4, adv_D hq e1, e2] at hx
            cases hx
          omega
      · rw [if_neg hx]
        exact ⟨by omega, h2, by simpa using hx⟩
  exact gen T.length 0 (by omega) (fun i h1 h2 => by omega) (by omega)
theorem IsCl.uniq {N : Nat} {T : Tb} {q c c' : Nat} (a : IsCl N T q c) (b : IsCl N T q c') : c = c' := by
  have no : ∀ {c c' : Nat}, IsCl N T q c → IsCl N T q c' → ¬ c < c' := by
    intro c c' a b h
    have := b.on (c + 1) (by omega) (by omega)
    rw [a.off] at this; cases this
  have := no a b
  have := no b a
  omega
theorem clr_cnt {N q c : Nat} {T : Tb} (hl : T.length = N) (hq : q < N) (hf : (sl T q).full = true) : ∀ m, m < N → (∀ j, 1 ≤ j → j ≤ m → (sl T (adv N q j)).full = true) → cnt (clr N q T m) + (m + 1) = cnt T
  | 0, hm, _ => by
    have := cnt_set (T := T) (q := q) (s := z3) (by omega)
    simp only [hf, z3] at this
    unfold clr
    simpa [z3] using this
  | m + 1, hm, ho => by
    have ih := clr_cnt (c := c) hl hq hf m (by omega) (fun j h1 h2 => ho j h1 (by omega))
    have hc := cnt_set (T := clr N q T m) (q := adv N q (m + 1)) (s := z3) (by rw [clr_len, hl]; exact adv_lt hq (by omega))
    have hfu : (sl (clr N q T m) (adv N q (m + 1))).full = true := by
      rw [clr_sl hl hq m _ (by omega) (adv_lt hq (by omega)), D_adv hq (by omega), if_neg (by omega)]
      exact ho (m + 1) (by omega) (Nat.le_refl _)
    rw [hfu] at hc
    have e : clr N q T (m + 1) = (clr N q T m).set (adv N q (m + 1)) z3 := rfl
    rw [e]
    simp only [z3] at hc ⊢
    simp at hc
    omega
theorem rel_cnt {N : Nat} {h : Int → Nat} {T : Tb} {q c : Nat} (hh : ∀ k, h k < N) (hi : HInv N h T) (hq : q < N) (hf : (sl T q).full = true) (hc : IsCl N T q c) : ∀ j, j ≤ c → cnt (rel N h T q c j) + (c + 1) = cnt T + j
  | 0, _ => clr_cnt (c := c) hi.len hq hf c (by have := hc.lt; omega) hc.on
  | j + 1, hj => by
    have ih := rel_cnt hh hi hq hf hc j (by omega)
    have hhf := half_all hh hi hq hc j (by omega)
    have hlt := hc.lt
    have hat : adv N q (j + 1) < N := adv_lt hq (by omega)
    have hxf := hc.on (j + 1) (by omega) hj
    have hkeys : ∀ t, Mem (rel N h T q c j) t → t.key ≠ (sl T (adv N q (j + 1))).key := by
      rintro t ⟨h1, r, h2, h3⟩ hk
      rw [hhf.inv.len] at h2
      obtain ⟨r', g1, g2, g3, g4⟩ := hhf.src r h2 (by rw [h3]; exact h1)
      rw [h3] at g2
      have := hi.apart r' (adv N q (j + 1)) g1 hat (by rw [← g2]; exact h1) hxf (by rw [← g2]; exact hk)
      rw [this, D_adv hq (by omega)] at g4
      omega
    have hroom : Room N (rel N h T q c j) := by
      refine ⟨(shf N h T q j).2, hhf.hole, ?_⟩
      rw [hhf.same _ hhf.hole, if_pos rfl]; rfl
    have := (lay_new hh hhf.inv hroom hxf hkeys).2.1
    show cnt (lay1 N h (rel N h T q c j) (sl T (adv N q (j + 1)))) + (c + 1) = _
    omega
/-- What a deletion comes to. -/
theorem del_all {T : Tb} (h : HOk T) (k : Int) : HOk (hDel T k).1 ∧ (∀ t, Mem (hDel T k).1 t ↔ Mem T t ∧ t.key ≠ k) ∧ cnt (hDel T k).1 = (if (sl T (hF T k)).full then cnt T - 1 else cnt T) ∧ (hDel T k).1.length = T.length := by
  have hl := h.len
  have hf := h.find k
  have hth := h.there k
  unfold hDel
  by_cases hx : (sl T (hF T k)).full = true
  · rw [if_pos hx]
    have hh : ∀ k, hm T.length k < T.length := fun k => hm_lt (by omega) k
    have hc := clen_is hf.lt hx h.room
    have hhf := half_all hh h.inv hf.lt hc (clen T (hF T k)) (Nat.le_refl _)
    have hcn := rel_cnt hh h.inv hf.lt hx hc (clen T (hF T k)) (Nat.le_refl _)
    have hlen := hhf.inv.len
    have hm : ∀ t, Mem (rel T.length (hm T.length) T (hF T k) (clen T (hF T k)) (clen T (hF T k))) t ↔ Mem T t ∧ t.key ≠ k := by
      intro t
      constructor
      · rintro ⟨h1, r, h2, h3⟩
        rw [hlen] at h2
        obtain ⟨r', g1, g2, g3, g4⟩ := hhf.src r h2 (by rw [h3]; exact h1)
        rw [h3] at g2
        refine ⟨⟨h1, r', g1, g2.symm⟩, fun hk => g3 ?_⟩
        rw [D_zero hf.lt g1]
        exact h.inv.found (hh k) hf g1 (by rw [← g2]; exact h1) (by rw [← g2]; exact hk)
      · rintro ⟨⟨h1, r', g1, g2⟩, hk⟩
        have hne : r' ≠ hF T k := by
          rintro rfl
          rw [← g2] at hk
          exact hk (hth.1 hx).2
        obtain ⟨r, r1, r2⟩ := hhf.dst r' g1 (by rw [g2]; exact h1) (fun e => hne ((D_zero hf.lt g1).1 e)) (by omega)
        exact ⟨h1, r, by rw [hlen]; exact r1, by rw [r2]; exact g2⟩
    simp only [hx, if_true]
    refine ⟨⟨by rw [hlen]; exact h.pow, ?_, ?_, fun t ht => h.keys t ((hm t).1 ht).1⟩, hm, by omega, hlen⟩
    · have := hhf.inv
      rwa [hlen]
    · have := h.load
      rw [hlen]
      omega
  · rw [if_neg hx]
    simp only [hx]
    refine ⟨h, fun t => ⟨fun ht => ⟨ht, hth.2 (by simpa using hx) t ht⟩, fun ht => ht.1⟩, ?_, ?_⟩ <;> simp
theorem empty_ok : HOk (List.replicate 8 z3) := by
  refine ⟨⟨3, by omega, by omega, by simp⟩, ?_, by rw [empty_cnt]; simp, fun t ht => absurd ht (empty_mem _ _)⟩
  rw [List.length_replicate]
  exact empty_inv _ _
end Go.Al
