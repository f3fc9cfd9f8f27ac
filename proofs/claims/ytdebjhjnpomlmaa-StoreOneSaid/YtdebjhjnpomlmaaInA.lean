/- Lists of places: what the program's acts make of nodes and rows, of rows alone. Conditions: none. Lists of places: pushing and taking out keep what ties nodes and rows to lists, of rows alone. Conditions: none. Lists of places: pushing behind keeps what ties nodes and rows to lists, of rows alone. Conditions: none. Lists of places: taking out keeps what ties nodes and rows to lists, of rows alone. Conditions: none. Lists of places, by the program: where they lie, and what is told of them. Conditions: the rows are short. Lists of places, by the program: tags, fronts, backs, neighbours. Conditions: the rows are short. Lists of places, by the program: lengths, neighbours; a node turned by a function. Conditions: the rows are short. -/
import Derived.Test.YtdebjhjnpomlmaaAnA
section
set_option linter.unusedVariables false
set_option linter.unusedSimpArgs false
set_option maxHeartbeats 1600000
namespace Go.Al
theorem raSet_is (R : RA) (i : Int) (x : Nd) (k : Int) : raIs (raSet R i x).1 k = raIs R k := by
  unfold raSet
  split <;> rfl
theorem raSet_at' {R : RA} (ok : RaOk R) (i : Int) (x : Nd) (k : Int) : raAt (raSet R i x).1 k = if raIs R i = true ∧ k = i then x else raAt R k := by
  by_cases hi : raIs R i = true
  · have hs : raSet R i x = (⟨R.len, R.ever, R.freed, R.nodes.set i.toNat x⟩, true) := if_pos hi
    have hk : ∀ k, raIs ⟨R.len, R.ever, R.freed, R.nodes.set i.toNat x⟩ k = raIs R k := fun k => rfl
    obtain ⟨g0, g1, _⟩ := ra_rng ok hi
    have hlt : i.toNat < R.nodes.length := by rw [ok.nd]; omega
    rw [hs]
    unfold raAt
    rw [hk]
    by_cases e : k = i
    · subst e
      rw [if_pos hi, if_pos ⟨hi, rfl⟩]
      simp [List.getD_eq_getElem?_getD, hlt]
    · rw [if_neg (fun h : raIs R i = true ∧ k = i => e h.2)]
      by_cases hr : raIs R k = true
      · rw [if_pos hr, if_pos hr]
        obtain ⟨q0, q1, _⟩ := ra_rng ok hr
        have : ¬ i.toNat = k.toNat := by omega
        simp [List.getD_eq_getElem?_getD, List.getElem?_set, this]
      · rw [if_neg hr, if_neg hr]
  · have hs : raSet R i x = (R, false) := if_neg hi
    rw [hs, if_neg (fun h : raIs R i = true ∧ k = i => hi h.1)]
/-- A list's row: its front, its back, how many. -/
structure Rw where
  f : Int
  b : Int
  n : Int
  deriving DecidableEq, Inhabited
def r0 : Rw := ⟨0, 0, 0⟩
/-- A node is taken out, turned, and laid back. -/
def wth (R : RA) (i : Int) (g : Nd → Nd) : RA := (raSet R i (g (raAt R i))).1
theorem wth_is (R : RA) (i : Int) (g : Nd → Nd) (k : Int) : raIs (wth R i g) k = raIs R k := raSet_is _ _ _ _
theorem wth_at {R : RA} (ok : RaOk R) (i : Int) (g : Nd → Nd) (k : Int) : raAt (wth R i g) k = if raIs R i = true ∧ k = i then g (raAt R i) else raAt R k := raSet_at' ok _ _ _
theorem wth_ok {R : RA} (ok : RaOk R) (i : Int) (g : Nd → Nd) : RaOk (wth R i g) := (arSet_of ok i _).2
def gNext (i : Int) (x : Nd) : Nd := ⟨x.key, x.val, x.flag, x.tag, x.prev, i⟩
def gPrev (i : Int) (x : Nd) : Nd := ⟨x.key, x.val, x.flag, x.tag, i, x.next⟩
def gLay (t p n : Int) (x : Nd) : Nd := ⟨x.key, x.val, x.flag, t + 1, p, n⟩
def gOff (x : Nd) : Nd := ⟨x.key, x.val, x.flag, 0, 0, 0⟩
def joinR (R : RA) (w : Rw) (p i : Int) : RA × Rw :=
  let a : RA × Rw := if p = 0 then (R, ⟨i, w.b, w.n⟩) else (wth R p (gNext i), w)
  if i = 0 then (a.1, ⟨a.2.f, p, a.2.n⟩) else (wth a.1 i (gPrev p), a.2)
def layR (R : RA) (w : Rw) (t p i n : Int) : RA × Rw :=
  let a := joinR (wth R i (gLay t p n)) w p i
  let b := joinR a.1 a.2 i n
  (b.1, ⟨b.2.f, b.2.b, b.2.n + 1⟩)
def offR (R : RA) (w : Rw) (i : Int) : RA × Rw :=
  let a := joinR R w (raAt R i).prev (raAt R i).next
  (wth a.1 i gOff, ⟨a.2.f, a.2.b, a.2.n - 1⟩)
/-- The one ahead, and the one behind. -/
def prv (l : List Int) (p : Nat) : Int := if p = 0 then 0 else l.getD (p - 1) 0
def nxt (l : List Int) (p : Nat) : Int := l.getD (p + 1) 0
/-- What ties nodes and rows to lists. -/
structure LInv (R : RA) (rows : List Rw) (ls : List (List Int)) : Prop where
  ok : RaOk R
  len : rows.length = ls.length
  row : ∀ (t : Nat) (l : List Int), ls[t]? = some l → rows[t]? = some ⟨l.headD 0, l.getLastD 0, l.length⟩
  live : ∀ (t : Nat) (l : List Int), ls[t]? = some l → ∀ i ∈ l, raIs R i = true
  one : ∀ (t : Nat) (l : List Int), ls[t]? = some l → l.Nodup
  apart : ∀ (t u : Nat) (l m : List Int), ls[t]? = some l → ls[u]? = some m → ∀ i, i ∈ l → i ∈ m → t = u
  node : ∀ (t : Nat) (l : List Int), ls[t]? = some l → ∀ (p : Nat) (i : Int), l[p]? = some i → (raAt R i).tag = (t : Int) + 1 ∧ (raAt R i).prev = prv l p ∧ (raAt R i).next = nxt l p
  none : ∀ i, (∀ (t : Nat) (l : List Int), ls[t]? = some l → i ∉ l) → (raAt R i).tag = 0 ∧ (raAt R i).prev = 0 ∧ (raAt R i).next = 0
theorem joinR_ok {R : RA} (ok : RaOk R) (w : Rw) (p i : Int) : RaOk (joinR R w p i).1 ∧ ∀ k, raIs (joinR R w p i).1 k = raIs R k := by
  unfold joinR
  by_cases hp : p = 0 <;> by_cases hi : i = 0 <;> simp only [hp, hi, if_true, if_false]
  · exact ⟨ok, fun _ => trivial⟩
  · exact ⟨wth_ok ok _ _, fun k => wth_is _ _ _ _⟩
  · exact ⟨wth_ok ok _ _, fun k => wth_is _ _ _ _⟩
  · exact ⟨wth_ok (wth_ok ok _ _) _ _, fun k => by rw [wth_is, wth_is]⟩
theorem layR_at {R : RA} (ok : RaOk R) (w : Rw) {t p i n : Int} (hi : raIs R i = true) (hp : p ≠ 0 → raIs R p = true ∧ p ≠ i) (hn : n ≠ 0 → raIs R n = true ∧ n ≠ i) (hpn : p = 0 ∨ n = 0) (k : Int) :
    raAt (layR R w t p i n).1 k = if k = i then gLay t p n (raAt R i) else if p ≠ 0 ∧ k = p then gNext i (raAt R p) else if n ≠ 0 ∧ k = n then gPrev i (raAt R n) else raAt R k := by
  have i0 := (ra_rng ok hi).1
  have hi0 : ¬ i = 0 := by omega
  have o1 := wth_ok ok i (gLay t p n)
  by_cases p0 : p = 0
  · subst p0
    by_cases n0 : n = 0
    · subst n0
      unfold layR joinR
      simp only [hi0, if_true, if_false]
      rw [wth_at (wth_ok o1 _ _), wth_at o1, wth_at o1, wth_at ok, wth_at ok, wth_is, wth_is]
      by_cases e : k = i
      · simp [e, hi, gNext, gPrev, gLay]
      · simp [e]
    · obtain ⟨h1, h2⟩ := hn n0
      have h2' : ¬ i = n := fun e => h2 e.symm
      unfold layR joinR
      simp only [hi0, n0, if_true, if_false]
      rw [wth_at (wth_ok (wth_ok o1 _ _) _ _), wth_at (wth_ok o1 _ _), wth_at (wth_ok o1 _ _), wth_at o1, wth_at o1, wth_at o1, wth_at ok, wth_at ok, wth_at ok, wth_is, wth_is, wth_is, wth_is]
      by_cases e : k = i
      · simp [e, hi, h1, h2, h2', gNext, gPrev, gLay]
      · by_cases e2 : k = n
        · simp [e2, hi, h1, h2, h2', n0, gNext, gPrev, gLay, wth_is]
        · simp [e, e2]
  · have n0 : n = 0 := by omega
    subst n0
    obtain ⟨h1, h2⟩ := hp p0
    have h2' : ¬ i = p := fun e => h2 e.symm
    unfold layR joinR
    simp only [hi0, p0, if_true, if_false]
    rw [wth_at (wth_ok (wth_ok o1 _ _) _ _), wth_at (wth_ok o1 _ _), wth_at (wth_ok o1 _ _), wth_at o1, wth_at o1, wth_at ok, wth_at ok, wth_at ok, wth_is, wth_is, wth_is]
    by_cases e : k = i
    · simp [e, hi, h1, h2, h2', gNext, gPrev, gLay]
    · by_cases e2 : k = p
      · simp [e2, hi, h1, h2, h2', p0, gNext, gPrev, gLay, wth_is]
      · simp [e, e2]
theorem layR_row {R : RA} (w : Rw) {t p i n : Int} (hi : i ≠ 0) : (layR R w t p i n).2 = ⟨if p = 0 then i else w.f, if n = 0 then i else w.b, w.n + 1⟩ := by
  unfold layR joinR
  by_cases p0 : p = 0 <;> by_cases n0 : n = 0 <;> simp [p0, n0, hi]
end Go.Al
end
section
set_option linter.unusedVariables false
set_option linter.unusedSimpArgs false
set_option maxHeartbeats 1600000
namespace Go.Al
theorem get_set {α : Type} {l : List α} {t u : Nat} {x y : α} (h : (l.set t x)[u]? = some y) : (u = t ∧ y = x) ∨ (u ≠ t ∧ l[u]? = some y) := by
  by_cases e : u = t
  · subst e
    rw [List.getElem?_set_self'] at h
    cases hx : l[u]? with
    | none => rw [hx] at h; cases h
    | some z => rw [hx] at h; simp at h; exact .inl ⟨rfl, h.symm⟩
  · rw [List.getElem?_set_ne (fun h => e h.symm)] at h
    exact .inr ⟨e, h⟩
/-- One list is replaced. -/
theorem LInv.put {R R' : RA} {rows : List Rw} {ls : List (List Int)} (h : LInv R rows ls) {t : Nat} {l l' : List Int} {w : Rw} (hl : ls[t]? = some l) (ok : RaOk R') (his : ∀ k, raIs R' k = raIs R k)
    (hw : w = ⟨l'.headD 0, l'.getLastD 0, l'.length⟩) (hlive : ∀ k ∈ l', raIs R k = true) (hone : l'.Nodup) (hold : ∀ k ∈ l', k ∈ l ∨ ∀ (u : Nat) (m : List Int), ls[u]? = some m → k ∉ m)
    (hnode : ∀ (p : Nat) (k : Int), l'[p]? = some k → (raAt R' k).tag = (t : Int) + 1 ∧ (raAt R' k).prev = prv l' p ∧ (raAt R' k).next = nxt l' p)
    (hsame : ∀ k, k ∉ l' → k ∉ l → raAt R' k = raAt R k) (hgone : ∀ k, k ∉ l' → k ∈ l → (raAt R' k).tag = 0 ∧ (raAt R' k).prev = 0 ∧ (raAt R' k).next = 0) :
    LInv R' (rows.set t w) (ls.set t l') := by
  have hlt : t < ls.length := (List.getElem?_eq_some_iff.1 hl).1
  have hoth : ∀ (u : Nat) (m : List Int), u ≠ t → ls[u]? = some m → ∀ k ∈ m, k ∉ l ∧ k ∉ l' := by
    intro u m hu hm k hk
    have h1 : k ∉ l := fun hkl => hu (h.apart u t m l hm hl k hk hkl)
    refine ⟨h1, fun hk' => ?_⟩
    rcases hold k hk' with h2 | h2
    · exact h1 h2
    · exact h2 u m hm hk
  refine ⟨ok, by simp [h.len], ?_, ?_, ?_, ?_, ?_, ?_⟩
  · intro u m hm
    rcases get_set hm with ⟨rfl, rfl⟩ | ⟨hu, hm⟩
    · rw [List.getElem?_set_self (by rw [h.len]; exact hlt), hw]
    · rw [List.getElem?_set_ne (fun e => hu e.symm)]; exact h.row u m hm
  · intro u m hm i hi
    rw [his]
    rcases get_set hm with ⟨rfl, rfl⟩ | ⟨hu, hm⟩
    · exact hlive i hi
    · exact h.live u m hm i hi
  · intro u m hm
    rcases get_set hm with ⟨rfl, rfl⟩ | ⟨hu, hm⟩
    · exact hone
    · exact h.one u m hm
  · intro u v m m' hm hm' i hi hi'
    have q1 := get_set hm
    have q2 := get_set hm'
    clear hm hm'
    rcases q1 with ⟨e1, e2⟩ | ⟨hu, hm⟩ <;> rcases q2 with ⟨e3, e4⟩ | ⟨hv, hm'⟩
    · rw [e1, e3]
    · rw [e2] at hi; exact absurd hi (hoth v m' hv hm' i hi').2
    · rw [e4] at hi'; exact absurd hi' (hoth u m hu hm i hi).2
    · exact h.apart u v m m' hm hm' i hi hi'
  · intro u m hm p i hp
    rcases get_set hm with ⟨rfl, rfl⟩ | ⟨hu, hm⟩
    · exact hnode p i hp
    · obtain ⟨g1, g2⟩ := hoth u m hu hm i (List.mem_of_getElem? hp)
      rw [hsame i g2 g1]
      exact h.node u m hm p i hp
  · intro i hi
    have h1 : i ∉ l' := hi t l' (by rw [List.getElem?_set_self hlt])
    by_cases h2 : i ∈ l
    · exact hgone i h1 h2
    · rw [hsame i h1 h2]
      refine h.none i fun u m hm hk => ?_
      by_cases hu : u = t
      · subst hu
        rw [hl] at hm
        cases hm
        exact h2 hk
      · exact hi u m (by rw [List.getElem?_set_ne (fun e => hu e.symm)]; exact hm) hk
theorem live_ne {R : RA} (ok : RaOk R) {i : Int} (h : raIs R i = true) : i ≠ 0 := by
  have := (ra_rng ok h).1
  omega
/-- Pushed in front. -/
theorem LInv.front {R : RA} {rows : List Rw} {ls : List (List Int)} (h : LInv R rows ls) {t : Nat} {l : List Int} {i : Int} (hl : ls[t]? = some l) (hi : raIs R i = true) (hno : ∀ (u : Nat) (m : List Int), ls[u]? = some m → i ∉ m) :
    LInv (layR R ⟨l.headD 0, l.getLastD 0, l.length⟩ t 0 i (l.headD 0)).1 (rows.set t (layR R ⟨l.headD 0, l.getLastD 0, l.length⟩ t 0 i (l.headD 0)).2) (ls.set t (i :: l)) := by
  have ok := h.ok
  have i0 := live_ne ok hi
  have hil := hno t l hl
  have hn : l.headD 0 ≠ 0 → raIs R (l.headD 0) = true ∧ l.headD 0 ≠ i := by
    intro hne
    cases l with
    | nil => exact absurd rfl hne
    | cons a l => exact ⟨h.live t _ hl a (by simp), fun e => hil (by rw [← e]; simp)⟩
  have hat := layR_at (w := ⟨l.headD 0, l.getLastD 0, l.length⟩) (t := t) (p := 0) (n := l.headD 0) ok hi (fun hp => absurd rfl hp) hn (.inl rfl)
  have hrow := layR_row (R := R) (w := ⟨l.headD 0, l.getLastD 0, l.length⟩) (t := t) (p := 0) (n := l.headD 0) i0
  have hok : RaOk (layR R ⟨l.headD 0, l.getLastD 0, l.length⟩ t 0 i (l.headD 0)).1 ∧ ∀ k, raIs (layR R ⟨l.headD 0, l.getLastD 0, l.length⟩ t 0 i (l.headD 0)).1 k = raIs R k := by
    unfold layR
    have a1 := joinR_ok (wth_ok ok i (gLay t 0 (l.headD 0))) ⟨l.headD 0, l.getLastD 0, l.length⟩ 0 i
    have a2 := joinR_ok a1.1 (joinR (wth R i (gLay t 0 (l.headD 0))) ⟨l.headD 0, l.getLastD 0, l.length⟩ 0 i).2 i (l.headD 0)
    exact ⟨a2.1, fun k => by rw [a2.2, a1.2, wth_is]⟩
  refine h.put hl hok.1 hok.2 ?_ ?_ ?_ ?_ ?_ ?_ ?_
  · rw [hrow]
    cases l with
    | nil => simp
    | cons a l =>
      have ha : a ≠ 0 := live_ne ok (h.live t _ hl a (by simp))
      simp [ha]
  · intro k hk
    rcases List.mem_cons.1 hk with rfl | hk
    · exact hi
    · exact h.live t l hl k hk
  · exact List.nodup_cons.2 ⟨hil, h.one t l hl⟩
  · intro k hk
    rcases List.mem_cons.1 hk with rfl | hk
    · exact .inr hno
    · exact .inl hk
  · intro p k hk
    rw [hat]
    cases p with
    | zero =>
      simp at hk
      subst hk
      rw [if_pos rfl]
      refine ⟨rfl, rfl, ?_⟩
      cases l <;> simp [gLay, nxt]
    | succ p =>
      have hk : l[p]? = some k := by simpa using hk
      have hkl := List.mem_of_getElem? hk
      have hki : k ≠ i := fun e => hil (by rw [← e]; exact hkl)
      obtain ⟨n1, n2, n3⟩ := h.node t l hl p k hk
      rw [if_neg hki, if_neg (by simp)]
      have hhd : k = l.headD 0 ↔ p = 0 := by
        constructor
        · intro e
          have hn := h.one t l hl
          cases l with
          | nil => simp at hk
          | cons a l =>
            have h0 : (a :: l)[0]? = some k := by rw [e]; rfl
            have hp := (List.getElem?_eq_some_iff.1 hk).1
            exact (List.getElem?_inj hp hn).1 (by rw [hk, h0])
        · rintro rfl
          cases l with
          | nil => simp at hk
          | cons a l => simp at hk; simp [hk]
      by_cases e : p = 0
      · have hk2 := hhd.2 e
        have hk0 := live_ne ok (h.live t l hl k hkl)
        rw [if_pos ⟨by rw [← hk2]; exact hk0, hk2⟩, ← hk2]
        subst e
        refine ⟨n1, by simp [gPrev, prv], ?_⟩
        show (raAt R k).next = _
        rw [n3]
        simp [nxt]
      · rw [if_neg (fun hh => e (hhd.1 hh.2))]
        refine ⟨n1, ?_, ?_⟩
        · rw [n2]
          unfold prv
          rw [if_neg e, if_neg (by omega)]
          obtain ⟨p', rfl⟩ : ∃ p', p = p' + 1 := ⟨p - 1, by omega⟩
          simp
        · rw [n3]; simp [nxt]
  · intro k h1 h2
    rw [hat, if_neg (fun e => h1 (by rw [e]; simp)), if_neg (by simp), if_neg]
    rintro ⟨g1, g2⟩
    apply h2
    cases l with
    | nil => exact absurd rfl g1
    | cons a l => rw [g2]; simp
  · intro k h1 h2
    exact absurd (List.mem_cons_of_mem _ h2) h1
end Go.Al
end
section
set_option linter.unusedVariables false
set_option linter.unusedSimpArgs false
set_option maxHeartbeats 1600000
namespace Go.Al
theorem lastD_get (l : List Int) : l.getLastD 0 = l.getD (l.length - 1) 0 := by
  cases l with
  | nil => rfl
  | cons a l =>
    rw [List.getLastD_cons, List.getLastD_eq_getLast?, List.getLast?_eq_getElem?]
    cases l with
    | nil => simp
    | cons b l => simp [List.getD_eq_getElem?_getD]
theorem lastD_mem {l : List Int} (h : l ≠ []) : l[l.length - 1]? = some (l.getLastD 0) := by
  have := List.length_pos_iff.2 h
  rw [lastD_get, List.getD_eq_getElem?_getD, List.getElem?_eq_getElem (by omega)]
  rfl
/-- Pushed behind. -/
theorem LInv.back {R : RA} {rows : List Rw} {ls : List (List Int)} (h : LInv R rows ls) {t : Nat} {l : List Int} {i : Int} (hl : ls[t]? = some l) (hi : raIs R i = true) (hno : ∀ (u : Nat) (m : List Int), ls[u]? = some m → i ∉ m) :
    LInv (layR R ⟨l.headD 0, l.getLastD 0, l.length⟩ t (l.getLastD 0) i 0).1 (rows.set t (layR R ⟨l.headD 0, l.getLastD 0, l.length⟩ t (l.getLastD 0) i 0).2) (ls.set t (l ++ [i])) := by
  have ok := h.ok
  have i0 := live_ne ok hi
  have hil := hno t l hl
  have hlm : l ≠ [] → l.getLastD 0 ∈ l := fun hne => List.mem_of_getElem? (lastD_mem hne)
  have hne0 : l.getLastD 0 ≠ 0 → l ≠ [] := fun e e2 => e (by rw [e2]; rfl)
  have hp : l.getLastD 0 ≠ 0 → raIs R (l.getLastD 0) = true ∧ l.getLastD 0 ≠ i := fun e => ⟨h.live t l hl _ (hlm (hne0 e)), fun e2 => hil (by rw [← e2]; exact hlm (hne0 e))⟩
  have hat := layR_at (w := ⟨l.headD 0, l.getLastD 0, l.length⟩) (t := t) (p := l.getLastD 0) (n := 0) ok hi hp (fun hn => absurd rfl hn) (.inr rfl)
  have hrow := layR_row (R := R) (w := ⟨l.headD 0, l.getLastD 0, l.length⟩) (t := t) (p := l.getLastD 0) (n := 0) i0
  have hok : RaOk (layR R ⟨l.headD 0, l.getLastD 0, l.length⟩ t (l.getLastD 0) i 0).1 ∧ ∀ k, raIs (layR R ⟨l.headD 0, l.getLastD 0, l.length⟩ t (l.getLastD 0) i 0).1 k = raIs R k := by
    unfold layR
    have a1 := joinR_ok (wth_ok ok i (gLay t (l.getLastD 0) 0)) ⟨l.headD 0, l.getLastD 0, l.length⟩ (l.getLastD 0) i
    have a2 := joinR_ok a1.1 (joinR (wth R i (gLay t (l.getLastD 0) 0)) ⟨l.headD 0, l.getLastD 0, l.length⟩ (l.getLastD 0) i).2 i 0
    exact ⟨a2.1, fun k => by rw [a2.2, a1.2, wth_is]⟩
  refine h.put hl hok.1 hok.2 ?_ ?_ ?_ ?_ ?_ ?_ ?_
  · rw [hrow]
    cases l with
    | nil => simp
    | cons a l =>
      have ha : (a :: l).getLastD 0 ≠ 0 := live_ne ok (h.live t _ hl _ (hlm (by simp)))
      rw [if_neg ha]
      simp
      show i = ((a :: l) ++ [i]).getLast?.getD 0
      rw [List.getLast?_concat]; rfl
  · intro k hk
    rcases List.mem_append.1 hk with hk | hk
    · exact h.live t l hl k hk
    · rw [List.mem_singleton] at hk; rw [hk]; exact hi
  · rw [List.nodup_append]
    refine ⟨h.one t l hl, by simp, ?_⟩
    rintro a ha b hb rfl
    rw [List.mem_singleton] at hb
    exact hil (by rw [← hb]; exact ha)
  · intro k hk
    rcases List.mem_append.1 hk with hk | hk
    · exact .inl hk
    · rw [List.mem_singleton] at hk; rw [hk]; exact .inr hno
  · intro p k hk
    rw [hat]
    by_cases hpl : p < l.length
    · rw [List.getElem?_append_left hpl] at hk
      have hkl := List.mem_of_getElem? hk
      have hki : k ≠ i := fun e => hil (by rw [← e]; exact hkl)
      obtain ⟨n1, n2, n3⟩ := h.node t l hl p k hk
      have hne : l ≠ [] := by rintro rfl; simp at hpl
      have hlast : k = l.getLastD 0 ↔ p = l.length - 1 := by
        have hm := lastD_mem hne
        constructor
        · intro e
          exact (List.getElem?_inj hpl (h.one t l hl)).1 (by rw [hk, hm, e])
        · intro e
          rw [← e, hk] at hm
          exact Option.some.inj hm
      have hprv : prv (l ++ [i]) p = prv l p := by
        unfold prv
        by_cases e : p = 0
        · rw [if_pos e, if_pos e]
        · rw [if_neg e, if_neg e, List.getD_eq_getElem?_getD, List.getD_eq_getElem?_getD, List.getElem?_append_left (by omega)]
      rw [if_neg hki]
      by_cases e : p = l.length - 1
      · have hk2 := hlast.2 e
        have hk0 := live_ne ok (h.live t l hl k hkl)
        rw [if_pos ⟨by rw [← hk2]; exact hk0, hk2⟩, ← hk2]
        refine ⟨n1, by rw [hprv]; exact n2, ?_⟩
        show i = _
        unfold nxt
        rw [List.getD_eq_getElem?_getD, List.getElem?_append_right (by omega), show p + 1 - l.length = 0 by omega]
        rfl
      · rw [if_neg (fun hh => e (hlast.1 hh.2)), if_neg (by simp)]
        refine ⟨n1, by rw [hprv]; exact n2, ?_⟩
        rw [n3]
        unfold nxt
        rw [List.getD_eq_getElem?_getD, List.getD_eq_getElem?_getD, List.getElem?_append_left (by omega)]
    · rw [List.getElem?_append_right (by omega)] at hk
      have hp0 : p - l.length = 0 := by
        have := (List.getElem?_eq_some_iff.1 hk).1
        simp at this; omega
      rw [hp0] at hk
      simp at hk
      have hpe : p = l.length := by omega
      subst hk
      rw [if_pos rfl]
      refine ⟨rfl, ?_, ?_⟩
      · show l.getLastD 0 = _
        unfold prv
        by_cases e : p = 0
        · rw [if_pos e]
          have : l = [] := List.length_eq_zero_iff.1 (by omega)
          rw [this]; rfl
        · rw [if_neg e, lastD_get, List.getD_eq_getElem?_getD, List.getD_eq_getElem?_getD, List.getElem?_append_left (by omega), hpe]
      · show (0 : Int) = _
        unfold nxt
        rw [List.getD_eq_getElem?_getD, List.getElem?_eq_none (by simp; omega)]
        rfl
  · intro k h1 h2
    rw [hat, if_neg (fun e => h1 (by rw [e]; simp)), if_neg, if_neg (by simp)]
    rintro ⟨g1, g2⟩
    exact h2 (by rw [g2]; exact hlm (hne0 g1))
  · intro k h1 h2
    exact absurd (List.mem_append_left _ h2) h1
end Go.Al
end
section
set_option linter.unusedVariables false
set_option linter.unusedSimpArgs false
set_option maxHeartbeats 1600000
namespace Go.Al
theorem joinR_at {R : RA} (ok : RaOk R) (w : Rw) {p n : Int} (hp : p ≠ 0 → raIs R p = true) (hn : n ≠ 0 → raIs R n = true) (hpn : p ≠ 0 → n ≠ 0 → p ≠ n) (k : Int) :
    raAt (joinR R w p n).1 k = if p ≠ 0 ∧ k = p then gNext n (raAt R p) else if n ≠ 0 ∧ k = n then gPrev p (raAt R n) else raAt R k := by
  unfold joinR
  by_cases p0 : p = 0 <;> by_cases n0 : n = 0
  · simp [p0, n0]
  · have h1 := hn n0
    simp only [p0, n0, if_true, if_false]
    rw [wth_at ok]
    simp [h1, p0, n0]
  · have h1 := hp p0
    simp only [p0, n0, if_true, if_false]
    rw [wth_at ok]
    simp [h1, p0, n0]
  · have h1 := hn n0
    have h2 := hp p0
    have h3 := hpn p0 n0
    have h3' : ¬ n = p := fun e => h3 e.symm
    simp only [p0, n0, if_false]
    rw [wth_at (wth_ok ok _ _), wth_at ok, wth_at ok, wth_is]
    by_cases e : k = n
    · subst e; simp [h1, h3', n0]
    · by_cases e2 : k = p
      · subst e2; simp [h2, e, p0]
      · simp [e, e2]
theorem joinR_row (R : RA) (w : Rw) (p n : Int) : (joinR R w p n).2 = ⟨if p = 0 then n else w.f, if n = 0 then p else w.b, w.n⟩ := by
  unfold joinR
  by_cases p0 : p = 0 <;> by_cases n0 : n = 0 <;> simp [p0, n0]
theorem get_some {l : List Int} {j : Nat} (h : j < l.length) : l[j]? = some (l.getD j 0) := by
  rw [List.getD_eq_getElem?_getD, List.getElem?_eq_getElem h]; rfl
theorem get_none {l : List Int} {j : Nat} (h : ¬ j < l.length) : l.getD j 0 = 0 := by
  rw [List.getD_eq_getElem?_getD, List.getElem?_eq_none (by omega)]; rfl
theorem erase_get (l : List Int) (q j : Nat) (hq : q < l.length) : (l.eraseIdx q).getD j 0 = if j < q then l.getD j 0 else l.getD (j + 1) 0 := by
  rw [List.getD_eq_getElem?_getD, List.getElem?_eraseIdx]
  split <;> rw [List.getD_eq_getElem?_getD]
theorem erase_get? (l : List Int) (q j : Nat) : (l.eraseIdx q)[j]? = if j < q then l[j]? else l[j + 1]? := List.getElem?_eraseIdx
/-- Taken out. -/
theorem LInv.off {R : RA} {rows : List Rw} {ls : List (List Int)} (h : LInv R rows ls) {t q : Nat} {l : List Int} {i : Int} (hl : ls[t]? = some l) (hq : l[q]? = some i) :
    LInv (offR R ⟨l.headD 0, l.getLastD 0, l.length⟩ i).1 (rows.set t (offR R ⟨l.headD 0, l.getLastD 0, l.length⟩ i).2) (ls.set t (l.eraseIdx q)) := by
  have ok := h.ok
  have hql := (List.getElem?_eq_some_iff.1 hq).1
  obtain ⟨m1, m2, m3⟩ := h.node t l hl q i hq
  have hil := List.mem_of_getElem? hq
  have hi := h.live t l hl i hil
  have hnd := h.one t l hl
  have inj : ∀ a b : Nat, a < l.length → l[a]? = l[b]? → a = b := fun a b ha e => (List.getElem?_inj ha hnd).1 e
  have liv : ∀ j, j < l.length → raIs R (l.getD j 0) = true := fun j hj => h.live t l hl _ (List.mem_of_getElem? (get_some hj))
  have nz : ∀ j, j < l.length → l.getD j 0 ≠ 0 := fun j hj => live_ne ok (liv j hj)
  have pz : prv l q = 0 ↔ q = 0 := by
    unfold prv
    by_cases e : q = 0
    · simp [e]
    · rw [if_neg e]; exact ⟨fun hh => absurd hh (nz _ (by omega)), fun hh => absurd hh e⟩
  have nzq : nxt l q = 0 ↔ ¬ q + 1 < l.length := by
    unfold nxt
    exact ⟨fun hh hlt => nz _ hlt hh, fun hh => get_none hh⟩
  have pget : q ≠ 0 → l[q - 1]? = some (prv l q) := fun e => by unfold prv; rw [if_neg e]; exact get_some (by omega)
  have nget : q + 1 < l.length → l[q + 1]? = some (nxt l q) := fun e => get_some e
  have hp : prv l q ≠ 0 → raIs R (prv l q) = true := fun e => h.live t l hl _ (List.mem_of_getElem? (pget (fun e2 => e (pz.2 e2))))
  have hn : nxt l q ≠ 0 → raIs R (nxt l q) = true := fun e => h.live t l hl _ (List.mem_of_getElem? (nget (Classical.byContradiction fun e2 => e (nzq.2 e2))))
  have hpn : prv l q ≠ 0 → nxt l q ≠ 0 → prv l q ≠ nxt l q := by
    intro e1 e2 e3
    have a1 := pget (fun e => e1 (pz.2 e))
    have a2 := nget (Classical.byContradiction fun e => e2 (nzq.2 e))
    have := inj (q - 1) (q + 1) (by omega) (by rw [a1, a2, e3])
    omega
  have hj := joinR_ok ok ⟨l.headD 0, l.getLastD 0, l.length⟩ (prv l q) (nxt l q)
  have hat : ∀ k, raAt (offR R ⟨l.headD 0, l.getLastD 0, l.length⟩ i).1 k = if k = i then gOff (raAt (joinR R ⟨l.headD 0, l.getLastD 0, l.length⟩ (prv l q) (nxt l q)).1 i) else if prv l q ≠ 0 ∧ k = prv l q then gNext (nxt l q) (raAt R (prv l q)) else if nxt l q ≠ 0 ∧ k = nxt l q then gPrev (prv l q) (raAt R (nxt l q)) else raAt R k := by
    intro k
    unfold offR
    simp only [m2, m3]
    rw [wth_at hj.1, hj.2]
    by_cases e : k = i
    · rw [if_pos ⟨hi, e⟩, if_pos e]
    · rw [if_neg (fun hh : raIs R i = true ∧ k = i => e hh.2), if_neg e, joinR_at ok _ hp hn hpn]
  have hrow : (offR R ⟨l.headD 0, l.getLastD 0, l.length⟩ i).2 = ⟨if prv l q = 0 then nxt l q else l.headD 0, if nxt l q = 0 then prv l q else l.getLastD 0, (l.length : Int) - 1⟩ := by
    unfold offR
    simp only [m2, m3]
    rw [joinR_row]
  have hok : RaOk (offR R ⟨l.headD 0, l.getLastD 0, l.length⟩ i).1 ∧ ∀ k, raIs (offR R ⟨l.headD 0, l.getLastD 0, l.length⟩ i).1 k = raIs R k := by
    unfold offR
    simp only [m2, m3]
    exact ⟨wth_ok hj.1 _ _, fun k => by rw [wth_is, hj.2]⟩
  have hlen : (l.eraseIdx q).length = l.length - 1 := by rw [List.length_eraseIdx, if_pos hql]
  have hmem : ∀ k, k ∈ l.eraseIdx q → k ∈ l ∧ k ≠ i := by
    intro k hk
    obtain ⟨j, hj1, rfl⟩ := List.mem_iff_getElem.1 hk
    have hjj : (l.eraseIdx q)[j]? = some (l.eraseIdx q)[j] := List.getElem?_eq_getElem hj1
    generalize (l.eraseIdx q)[j] = k at *
    rw [erase_get?] at hjj
    by_cases e : j < q
    · rw [if_pos e] at hjj
      exact ⟨List.mem_of_getElem? hjj, fun e2 => by have := inj j q (by omega) (by rw [hjj, hq, e2]); omega⟩
    · rw [if_neg e] at hjj
      exact ⟨List.mem_of_getElem? hjj, fun e2 => by have := inj (j + 1) q (List.getElem?_eq_some_iff.1 hjj).1 (by rw [hjj, hq, e2]); omega⟩
  have hmem2 : ∀ k, k ∈ l → k ≠ i → k ∈ l.eraseIdx q := by
    intro k hk hki
    obtain ⟨j, hj1, rfl⟩ := List.mem_iff_getElem.1 hk
    have hjj : l[j]? = some l[j] := List.getElem?_eq_getElem hj1
    generalize l[j] = k at *
    by_cases e : j < q
    · exact List.mem_of_getElem? (i := j) (by rw [erase_get?, if_pos e]; exact hjj)
    · have : j ≠ q := by rintro rfl; rw [hjj] at hq; exact hki (Option.some.inj hq)
      exact List.mem_of_getElem? (i := j - 1) (by rw [erase_get?, if_neg (by omega), show j - 1 + 1 = j by omega]; exact hjj)
  refine h.put hl hok.1 hok.2 ?_ ?_ ?_ ?_ ?_ ?_ ?_
  · rw [hrow]
    have e1 : (l.eraseIdx q).headD 0 = if prv l q = 0 then nxt l q else l.headD 0 := by
      have hd : ∀ m : List Int, m.headD 0 = m.getD 0 0 := fun m => by cases m <;> rfl
      rw [hd, hd, erase_get _ _ _ hql]
      by_cases e : q = 0
      · rw [if_neg (by omega), if_pos (pz.2 e), e]; rfl
      · rw [if_pos (by omega), if_neg (fun hh => e (pz.1 hh))]
    have e2 : (l.eraseIdx q).getLastD 0 = if nxt l q = 0 then prv l q else l.getLastD 0 := by
      rw [lastD_get, lastD_get, hlen, erase_get _ _ _ hql]
      by_cases e : q + 1 < l.length
      · rw [if_neg (by omega), if_neg (fun hh => nzq.1 hh e), show l.length - 1 - 1 + 1 = l.length - 1 by omega]
      · rw [if_pos (nzq.2 e)]
        unfold prv
        by_cases e0 : q = 0
        · rw [if_neg (by omega), if_pos e0, get_none (by omega)]
        · rw [if_pos (by omega), if_neg e0, show l.length - 1 - 1 = q - 1 by omega]
    rw [e1, e2, hlen]
    congr 1
    omega
  · intro k hk; exact h.live t l hl k (hmem k hk).1
  · exact hnd.sublist (List.eraseIdx_sublist _ _)
  · intro k hk; exact .inl (hmem k hk).1
  · intro j k hk
    have hkm := hmem k (List.mem_of_getElem? hk)
    rw [hat, if_neg hkm.2]
    have hjl : j < l.length - 1 := by have := (List.getElem?_eq_some_iff.1 hk).1; omega
    rw [erase_get?] at hk
    have hnx : nxt (l.eraseIdx q) j = if j + 1 < q then l.getD (j + 1) 0 else l.getD (j + 2) 0 := by unfold nxt; rw [erase_get _ _ _ hql]
    have hpv : prv (l.eraseIdx q) j = if j = 0 then 0 else if j - 1 < q then l.getD (j - 1) 0 else l.getD j 0 := by
      unfold prv
      by_cases e : j = 0
      · rw [if_pos e, if_pos e]
      · rw [if_neg e, if_neg e, erase_get _ _ _ hql, show j - 1 + 1 = j by omega]
    by_cases e : j < q
    · rw [if_pos e] at hk
      obtain ⟨n1, n2, n3⟩ := h.node t l hl j k hk
      have hkp : k = prv l q ↔ j = q - 1 := by
        have a1 := pget (by omega)
        exact ⟨fun e2 => inj j (q - 1) (by omega) (by rw [hk, a1, e2]), fun e2 => by rw [← e2, hk] at a1; exact Option.some.inj a1⟩
      have hkn : ¬ (nxt l q ≠ 0 ∧ k = nxt l q) := by
        rintro ⟨e1, e2⟩
        have a2 := nget (Classical.byContradiction fun e => e1 (nzq.2 e))
        have := inj j (q + 1) (by omega) (by rw [hk, a2, e2])
        omega
      have hpj : prv (l.eraseIdx q) j = prv l j := by
        rw [hpv]; unfold prv
        by_cases e0 : j = 0
        · rw [if_pos e0, if_pos e0]
        · rw [if_neg e0, if_neg e0, if_pos (by omega)]
      by_cases e3 : j = q - 1
      · have hk2 := hkp.2 e3
        rw [if_pos ⟨fun hh => by have := pz.1 hh; omega, hk2⟩, ← hk2]
        refine ⟨n1, by rw [hpj]; exact n2, ?_⟩
        show nxt l q = _
        rw [hnx, if_neg (by omega), show j + 2 = q + 1 by omega]; rfl
      · rw [if_neg (fun hh : prv l q ≠ 0 ∧ k = prv l q => e3 (hkp.1 hh.2)), if_neg hkn]
        refine ⟨n1, by rw [hpj]; exact n2, ?_⟩
        rw [n3, hnx, if_pos (by omega)]; rfl
    · rw [if_neg e] at hk
      obtain ⟨n1, n2, n3⟩ := h.node t l hl (j + 1) k hk
      have hkp : ¬ (prv l q ≠ 0 ∧ k = prv l q) := by
        rintro ⟨e1, e2⟩
        have a1 := pget (fun e => e1 (pz.2 e))
        have := inj (j + 1) (q - 1) (by omega) (by rw [hk, a1, e2])
        omega
      have hkn : k = nxt l q ↔ j = q := by
        have a2 := nget (by omega)
        refine ⟨fun e2 => ?_, fun e2 => ?_⟩
        · have := inj (j + 1) (q + 1) (by omega) (by rw [hk, a2, e2]); omega
        · rw [← e2, hk] at a2; rw [← e2]; exact Option.some.inj a2
      have hnj : (raAt R k).next = nxt (l.eraseIdx q) j := by rw [n3, hnx, if_neg (by omega)]; rfl
      rw [if_neg hkp]
      by_cases e3 : j = q
      · have hk2 := hkn.2 e3
        rw [if_pos ⟨fun hh => nzq.1 hh (by omega), hk2⟩, ← hk2]
        refine ⟨n1, ?_, hnj⟩
        show prv l q = _
        rw [hpv]
        unfold prv
        subst e3
        by_cases e0 : j = 0
        · rw [if_pos e0, if_pos e0]
        · rw [if_neg e0, if_neg e0, if_pos (by omega)]
      · rw [if_neg (fun hh : nxt l q ≠ 0 ∧ k = nxt l q => e3 (hkn.1 hh.2))]
        refine ⟨n1, ?_, hnj⟩
        rw [n2, hpv, if_neg (by omega), if_neg (by omega)]
        unfold prv
        rw [if_neg (by omega)]
        rfl
  · intro k h1 h2
    have hki : k ≠ i := fun e => h2 (by rw [e]; exact hil)
    rw [hat, if_neg hki, if_neg, if_neg]
    · rintro ⟨e1, e2⟩
      exact h2 (by rw [e2]; exact List.mem_of_getElem? (nget (Classical.byContradiction fun e => e1 (nzq.2 e))))
    · rintro ⟨e1, e2⟩
      exact h2 (by rw [e2]; exact List.mem_of_getElem? (pget (fun e => e1 (pz.2 e))))
  · intro k h1 h2
    have hki : k = i := Classical.byContradiction fun e => h1 (hmem2 k h2 e)
    rw [hat, if_pos hki]
    exact ⟨rfl, rfl, rfl⟩
end Go.Al
end
section
set_option linter.unusedVariables false
set_option linter.unusedSimpArgs false
set_option maxRecDepth 20000
set_option maxHeartbeats 1600000
namespace Go.Al
open Go.Proofs
def RW (l : List Rw) : List (List AV) := l.map fun x => [.sc (.int .i32 x.f), .sc (.int .i32 x.b), .sc (.int .i64 x.n)]
theorem RW_len (l : List Rw) : (RW l).length = l.length := by simp [RW]
theorem RW_get {l : List Rw} {p : Nat} {x : Rw} (h : l[p]? = some x) : (RW l)[p]? = some [.sc (.int .i32 x.f), .sc (.int .i32 x.b), .sc (.int .i64 x.n)] := by simp [RW, h]
theorem RW_set (l : List Rw) (p : Nat) (x : Rw) : (RW l).set p [.sc (.int .i32 x.f), .sc (.int .i32 x.b), .sc (.int .i64 x.n)] = RW (l.set p x) := by simp [RW, List.map_set]
theorem RW_rep (m : Nat) : List.replicate m [.sc (.int .i32 0), .sc (.int .i32 0), .sc (.int .i64 0)] = RW (List.replicate m r0) := by simp [RW, r0]
/-- Where lists lie: their struct at L, their rows at r, their arena at a, s, fv; all below n. -/
structure LsH (H : AH) (n L r a s : Nat) (fv : AV) (R : RA) (rows : List Rw) : Prop where
  hL : H L = some (.obj 103 2 [[.ptr a 4 0 0, .sl r 3 0 rows.length]] false)
  hr : H r = some (.obj 122 3 (RW rows) false)
  ar : ArH H n a s fv (arnOf R)
  lL : L < n
  lr : r < n
  nL : ¬ ArOwn a s fv L
  nr : ¬ ArOwn a s fv r
/-- The pointer at a list's row, or nobody. -/
def lsP (r k : Nat) (t : Int) : AV := if 0 ≤ t ∧ t < k then .ptr r 3 t.toNat 0 else .sc (.pointer none)
theorem cLsList {H : AH} {n L r a s : Nat} {fv : AV} {R : RA} {rows : List Rw} (h : LsH H n L r a s fv R rows) (t : Int) :
    HCalls Try.prog 72 [.ptr L 2 0 0, .sc (.int .i64 t)] H n fun v H' n' => v = lsP r rows.length t ∧ H' = H ∧ n' = n := by
  have hL := h.hL
  refine HCalls.walk Try.func72 rfl rfl Try.ntmps72 Try.results72 (by simp) ?_; simp (maxSteps := 400000) (dsimp := false) only [axs, AThen, ABlock, dstsOk, AStep, callsF, AWant, aop, AS.ev, AS.put, upd, AS.bound, abin, aint, aload, astore, cellsAt, AV.cells, alen, elems, AV.int?, FPost, aresL, ares1, pack, afill, splice, Value.oneCell', Nat.reduceLT, Nat.reduceLeDiff, Nat.reduceEqDiff, Nat.reduceAdd, Nat.reduceMul, Nat.reduceSub, Nat.reduceBEq, Int.reduceLE, Int.reduceLT, Int.reduceToNat, Int.reduceNeg, Int.reduceEq, axt, ftK, ft3, pickP, AScope, AAll, pickQ, ftQ, inHeap, tys]
  by_cases h0 : t < 0
  · have hc : lsP r rows.length t = .sc (.pointer none) := if_neg (by omega)
    rw [hc]
    simp (maxSteps := 400000) (dsimp := false) only [h0, axs, AThen, ABlock, dstsOk, AStep, callsF, AWant, aop, AS.ev, AS.put, upd, AS.bound, abin, aint, aload, astore, cellsAt, AV.cells, alen, elems, AV.int?, FPost, aresL, ares1, pack, afill, splice, Value.oneCell', Nat.reduceLT, Nat.reduceLeDiff, Nat.reduceEqDiff, Nat.reduceAdd, Nat.reduceMul, Nat.reduceSub, Nat.reduceBEq, Int.reduceLE, Int.reduceLT, Int.reduceToNat, Int.reduceNeg, Int.reduceEq, axt, ftK, ft3, pickP, AScope, AAll, pickQ, ftQ, inHeap, tys]
    exact ⟨_, rfl, rfl⟩
  · by_cases h1 : t ≥ rows.length
    · have hc : lsP r rows.length t = .sc (.pointer none) := if_neg (by omega)
      rw [hc]
      simp (maxSteps := 400000) (dsimp := false) only [h0, h1, hL, axs, AThen, ABlock, dstsOk, AStep, callsF, AWant, aop, AS.ev, AS.put, upd, AS.bound, abin, aint, aload, astore, cellsAt, AV.cells, alen, elems, AV.int?, FPost, aresL, ares1, pack, afill, splice, Value.oneCell', Nat.reduceLT, Nat.reduceLeDiff, Nat.reduceEqDiff, Nat.reduceAdd, Nat.reduceMul, Nat.reduceSub, Nat.reduceBEq, Int.reduceLE, Int.reduceLT, Int.reduceToNat, Int.reduceNeg, Int.reduceEq, axt, ftK, ft3, pickP, AScope, AAll, pickQ, ftQ, inHeap, tys]
      exact ⟨_, rfl, rfl⟩
    · have h2 : 0 ≤ t := by omega
      have h3 : t < rows.length := by omega
      have hc : lsP r rows.length t = .ptr r 3 t.toNat 0 := if_pos ⟨h2, h3⟩
      rw [hc]
      simp (maxSteps := 400000) (dsimp := false) only [h0, h1, h2, h3, hL, axs, AThen, ABlock, dstsOk, AStep, callsF, AWant, aop, AS.ev, AS.put, upd, AS.bound, abin, aint, aload, astore, cellsAt, AV.cells, alen, elems, AV.int?, FPost, aresL, ares1, pack, afill, splice, Value.oneCell', Nat.reduceLT, Nat.reduceLeDiff, Nat.reduceEqDiff, Nat.reduceAdd, Nat.reduceMul, Nat.reduceSub, Nat.reduceBEq, Int.reduceLE, Int.reduceLT, Int.reduceToNat, Int.reduceNeg, Int.reduceEq, axt, ftK, ft3, pickP, AScope, AAll, pickQ, ftQ, inHeap, tys]
      exact ⟨_, rfl, rfl⟩
end Go.Al
end
section
set_option linter.unusedVariables false
set_option linter.unusedSimpArgs false
set_option maxRecDepth 20000
set_option maxHeartbeats 1600000
-- axs, AThen, ABlock, dstsOk, AStep, callsF, AWant, aop, AS.ev, AS.put, upd, AS.bound, abin, aint, aload, astore, cellsAt, AV.cells, alen, elems, AV.int?, FPost, aresL, ares1, pack, afill, splice, Value.oneCell', Nat.reduceLT, Nat.reduceLeDiff, Nat.reduceEqDiff, Nat.reduceAdd, Nat.reduceMul, Nat.reduceSub, Nat.reduceBEq, Int.reduceLE, Int.reduceLT, Int.reduceToNat, Int.reduceNeg, Int.reduceEq, axt, ftK, ft3, pickP, AScope, AAll, pickQ, ftQ, inHeap, Nd.cells, tys: Nd.cells
namespace Go.Al
open Go.Proofs
theorem cLsTag {H : AH} {n L r a s : Nat} {fv : AV} {R : RA} {rows : List Rw} (h : LsH H n L r a s fv R rows) (ok : RaOk R) (i : Int) (hi : I32ok i) (h0 : 0 ≤ (raAt R i).tag) (h1 : (raAt R i).tag ≤ 1000) :
    HCalls Try.prog 44 [.ptr L 2 0 0, .sc (.int .i32 i)] H n fun v H' n' => v = .sc (.int .i64 ((raAt R i).tag - 1)) ∧ H' = upd H n (some (.obj 82 6 [(raAt R i).cells] false)) ∧ n' = n + 1 := by
  have hL := h.hL
  have w : IntKind.i64.wrap ((raAt R i).tag + -1) = (raAt R i).tag - 1 := by rw [IntWalk.i64_in _ ⟨by omega, by omega⟩]; omega
  refine HCalls.walk Try.func44 rfl rfl Try.ntmps44 Try.results44 (by simp) ?_; simp (maxSteps := 400000) (dsimp := false) only [hL, axs, AThen, ABlock, dstsOk, AStep, callsF, AWant, aop, AS.ev, AS.put, upd, AS.bound, abin, aint, aload, astore, cellsAt, AV.cells, alen, elems, AV.int?, FPost, aresL, ares1, pack, afill, splice, Value.oneCell', Nat.reduceLT, Nat.reduceLeDiff, Nat.reduceEqDiff, Nat.reduceAdd, Nat.reduceMul, Nat.reduceSub, Nat.reduceBEq, Int.reduceLE, Int.reduceLT, Int.reduceToNat, Int.reduceNeg, Int.reduceEq, axt, ftK, ft3, pickP, AScope, AAll, pickQ, ftQ, inHeap, Nd.cells, tys]
  refine ACallK.heap _ rfl (cRAt h.ar ok i hi) ?_; rintro r' H' n' ⟨rfl, eH, en⟩; obtain rfl := eH.symm; obtain rfl := en.symm; clear eH en; simp (maxSteps := 400000) (dsimp := false) only [w, axs, AThen, ABlock, dstsOk, AStep, callsF, AWant, aop, AS.ev, AS.put, upd, AS.bound, abin, aint, aload, astore, cellsAt, AV.cells, alen, elems, AV.int?, FPost, aresL, ares1, pack, afill, splice, Value.oneCell', Nat.reduceLT, Nat.reduceLeDiff, Nat.reduceEqDiff, Nat.reduceAdd, Nat.reduceMul, Nat.reduceSub, Nat.reduceBEq, Int.reduceLE, Int.reduceLT, Int.reduceToNat, Int.reduceNeg, Int.reduceEq, axt, ftK, ft3, pickP, AScope, AAll, pickQ, ftQ, inHeap, Nd.cells, tys]
  exact ⟨_, rfl, rfl⟩
theorem cLsFront {H : AH} {n L r a s : Nat} {fv : AV} {R : RA} {rows : List Rw} (h : LsH H n L r a s fv R rows) (t : Int) :
    HCalls Try.prog 52 [.ptr L 2 0 0, .sc (.int .i64 t)] H n fun v H' n' => v = .sc (.int .i32 (if 0 ≤ t ∧ t < rows.length then (rows.getD t.toNat r0).f else 0)) ∧ H' = H ∧ n' = n := by
  have hr := h.hr
  by_cases hc : 0 ≤ t ∧ t < rows.length
  · have hp : lsP r rows.length t = .ptr r 3 t.toNat 0 := if_pos hc
    have hlt : t.toNat < rows.length := by omega
    have hg := RW_get (l := rows) (p := t.toNat) (x := rows.getD t.toNat r0) (by rw [List.getD_eq_getElem?_getD, List.getElem?_eq_getElem hlt]; rfl)
    rw [if_pos hc]
    refine HCalls.walk Try.func52 rfl rfl Try.ntmps52 Try.results52 (by simp) ?_; simp (maxSteps := 400000) (dsimp := false) only [axs, AThen, ABlock, dstsOk, AStep, callsF, AWant, aop, AS.ev, AS.put, upd, AS.bound, abin, aint, aload, astore, cellsAt, AV.cells, alen, elems, AV.int?, FPost, aresL, ares1, pack, afill, splice, Value.oneCell', Nat.reduceLT, Nat.reduceLeDiff, Nat.reduceEqDiff, Nat.reduceAdd, Nat.reduceMul, Nat.reduceSub, Nat.reduceBEq, Int.reduceLE, Int.reduceLT, Int.reduceToNat, Int.reduceNeg, Int.reduceEq, axt, ftK, ft3, pickP, AScope, AAll, pickQ, ftQ, inHeap, Nd.cells, tys]
    refine ACallK.heap _ rfl (cLsList h t) ?_; rintro r' H' n' ⟨rfl, eH, en⟩; obtain rfl := eH.symm; obtain rfl := en.symm; clear eH en; simp (maxSteps := 400000) (dsimp := false) only [hp, hr, hg, axs, AThen, ABlock, dstsOk, AStep, callsF, AWant, aop, AS.ev, AS.put, upd, AS.bound, abin, aint, aload, astore, cellsAt, AV.cells, alen, elems, AV.int?, FPost, aresL, ares1, pack, afill, splice, Value.oneCell', Nat.reduceLT, Nat.reduceLeDiff, Nat.reduceEqDiff, Nat.reduceAdd, Nat.reduceMul, Nat.reduceSub, Nat.reduceBEq, Int.reduceLE, Int.reduceLT, Int.reduceToNat, Int.reduceNeg, Int.reduceEq, axt, ftK, ft3, pickP, AScope, AAll, pickQ, ftQ, inHeap, Nd.cells, tys]
    exact ⟨_, rfl, rfl⟩
  · have hp : lsP r rows.length t = .sc (.pointer none) := if_neg hc
    rw [if_neg hc]
    refine HCalls.walk Try.func52 rfl rfl Try.ntmps52 Try.results52 (by simp) ?_; simp (maxSteps := 400000) (dsimp := false) only [axs, AThen, ABlock, dstsOk, AStep, callsF, AWant, aop, AS.ev, AS.put, upd, AS.bound, abin, aint, aload, astore, cellsAt, AV.cells, alen, elems, AV.int?, FPost, aresL, ares1, pack, afill, splice, Value.oneCell', Nat.reduceLT, Nat.reduceLeDiff, Nat.reduceEqDiff, Nat.reduceAdd, Nat.reduceMul, Nat.reduceSub, Nat.reduceBEq, Int.reduceLE, Int.reduceLT, Int.reduceToNat, Int.reduceNeg, Int.reduceEq, axt, ftK, ft3, pickP, AScope, AAll, pickQ, ftQ, inHeap, Nd.cells, tys]
    refine ACallK.heap _ rfl (cLsList h t) ?_; rintro r' H' n' ⟨rfl, eH, en⟩; obtain rfl := eH.symm; obtain rfl := en.symm; clear eH en; simp (maxSteps := 400000) (dsimp := false) only [hp, axs, AThen, ABlock, dstsOk, AStep, callsF, AWant, aop, AS.ev, AS.put, upd, AS.bound, abin, aint, aload, astore, cellsAt, AV.cells, alen, elems, AV.int?, FPost, aresL, ares1, pack, afill, splice, Value.oneCell', Nat.reduceLT, Nat.reduceLeDiff, Nat.reduceEqDiff, Nat.reduceAdd, Nat.reduceMul, Nat.reduceSub, Nat.reduceBEq, Int.reduceLE, Int.reduceLT, Int.reduceToNat, Int.reduceNeg, Int.reduceEq, axt, ftK, ft3, pickP, AScope, AAll, pickQ, ftQ, inHeap, Nd.cells, tys]
    exact ⟨_, rfl, rfl⟩
theorem cLsBack {H : AH} {n L r a s : Nat} {fv : AV} {R : RA} {rows : List Rw} (h : LsH H n L r a s fv R rows) (t : Int) :
    HCalls Try.prog 53 [.ptr L 2 0 0, .sc (.int .i64 t)] H n fun v H' n' => v = .sc (.int .i32 (if 0 ≤ t ∧ t < rows.length then (rows.getD t.toNat r0).b else 0)) ∧ H' = H ∧ n' = n := by
  have hr := h.hr
  by_cases hc : 0 ≤ t ∧ t < rows.length
  · have hp : lsP r rows.length t = .ptr r 3 t.toNat 0 := if_pos hc
    have hlt : t.toNat < rows.length := by omega
    have hg := RW_get (l := rows) (p := t.toNat) (x := rows.getD t.toNat r0) (by rw [List.getD_eq_getElem?_getD, List.getElem?_eq_getElem hlt]; rfl)
    rw [if_pos hc]
    refine HCalls.walk Try.func53 rfl rfl Try.ntmps53 Try.results53 (by simp) ?_; simp (maxSteps := 400000) (dsimp := false) only [axs, AThen, ABlock, dstsOk, AStep, callsF, AWant, aop, AS.ev, AS.put, upd, AS.bound, abin, aint, aload, astore, cellsAt, AV.cells, alen, elems, AV.int?, FPost, aresL, ares1, pack, afill, splice, Value.oneCell', Nat.reduceLT, Nat.reduceLeDiff, Nat.reduceEqDiff, Nat.reduceAdd, Nat.reduceMul, Nat.reduceSub, Nat.reduceBEq, Int.reduceLE, Int.reduceLT, Int.reduceToNat, Int.reduceNeg, Int.reduceEq, axt, ftK, ft3, pickP, AScope, AAll, pickQ, ftQ, inHeap, Nd.cells, tys]
    refine ACallK.heap _ rfl (cLsList h t) ?_; rintro r' H' n' ⟨rfl, eH, en⟩; obtain rfl := eH.symm; obtain rfl := en.symm; clear eH en; simp (maxSteps := 400000) (dsimp := false) only [hp, hr, hg, axs, AThen, ABlock, dstsOk, AStep, callsF, AWant, aop, AS.ev, AS.put, upd, AS.bound, abin, aint, aload, astore, cellsAt, AV.cells, alen, elems, AV.int?, FPost, aresL, ares1, pack, afill, splice, Value.oneCell', Nat.reduceLT, Nat.reduceLeDiff, Nat.reduceEqDiff, Nat.reduceAdd, Nat.reduceMul, Nat.reduceSub, Nat.reduceBEq, Int.reduceLE, Int.reduceLT, Int.reduceToNat, Int.reduceNeg, Int.reduceEq, axt, ftK, ft3, pickP, AScope, AAll, pickQ, ftQ, inHeap, Nd.cells, tys]
    exact ⟨_, rfl, rfl⟩
  · have hp : lsP r rows.length t = .sc (.pointer none) := if_neg hc
    rw [if_neg hc]
    refine HCalls.walk Try.func53 rfl rfl Try.ntmps53 Try.results53 (by simp) ?_; simp (maxSteps := 400000) (dsimp := false) only [axs, AThen, ABlock, dstsOk, AStep, callsF, AWant, aop, AS.ev, AS.put, upd, AS.bound, abin, aint, aload, astore, cellsAt, AV.cells, alen, elems, AV.int?, FPost, aresL, ares1, pack, afill, splice, Value.oneCell', Nat.reduceLT, Nat.reduceLeDiff, Nat.reduceEqDiff, Nat.reduceAdd, Nat.reduceMul, Nat.reduceSub, Nat.reduceBEq, Int.reduceLE, Int.reduceLT, Int.reduceToNat, Int.reduceNeg, Int.reduceEq, axt, ftK, ft3, pickP, AScope, AAll, pickQ, ftQ, inHeap, Nd.cells, tys]
    refine ACallK.heap _ rfl (cLsList h t) ?_; rintro r' H' n' ⟨rfl, eH, en⟩; obtain rfl := eH.symm; obtain rfl := en.symm; clear eH en; simp (maxSteps := 400000) (dsimp := false) only [hp, axs, AThen, ABlock, dstsOk, AStep, callsF, AWant, aop, AS.ev, AS.put, upd, AS.bound, abin, aint, aload, astore, cellsAt, AV.cells, alen, elems, AV.int?, FPost, aresL, ares1, pack, afill, splice, Value.oneCell', Nat.reduceLT, Nat.reduceLeDiff, Nat.reduceEqDiff, Nat.reduceAdd, Nat.reduceMul, Nat.reduceSub, Nat.reduceBEq, Int.reduceLE, Int.reduceLT, Int.reduceToNat, Int.reduceNeg, Int.reduceEq, axt, ftK, ft3, pickP, AScope, AAll, pickQ, ftQ, inHeap, Nd.cells, tys]
    exact ⟨_, rfl, rfl⟩
end Go.Al
end
section
set_option linter.unusedVariables false
set_option linter.unusedSimpArgs false
set_option maxRecDepth 20000
set_option maxHeartbeats 1600000
-- axs, AThen, ABlock, dstsOk, AStep, callsF, AWant, aop, AS.ev, AS.put, upd, AS.bound, abin, aint, aload, astore, cellsAt, AV.cells, alen, elems, AV.int?, FPost, aresL, ares1, pack, afill, splice, Value.oneCell', Nat.reduceLT, Nat.reduceLeDiff, Nat.reduceEqDiff, Nat.reduceAdd, Nat.reduceMul, Nat.reduceSub, Nat.reduceBEq, Int.reduceLE, Int.reduceLT, Int.reduceToNat, Int.reduceNeg, Int.reduceEq, axt, ftK, ft3, pickP, AScope, AAll, pickQ, ftQ, inHeap, Nd.cells, tys: Nd.cells
namespace Go.Al
open Go.Proofs
theorem cLsLen {H : AH} {n L r a s : Nat} {fv : AV} {R : RA} {rows : List Rw} (h : LsH H n L r a s fv R rows) (t : Int) :
    HCalls Try.prog 64 [.ptr L 2 0 0, .sc (.int .i64 t)] H n fun v H' n' => v = .sc (.int .i64 (if 0 ≤ t ∧ t < rows.length then (rows.getD t.toNat r0).n else 0)) ∧ H' = H ∧ n' = n := by
  have hr := h.hr
  by_cases hc : 0 ≤ t ∧ t < rows.length
  · have hp : lsP r rows.length t = .ptr r 3 t.toNat 0 := if_pos hc
    have hlt : t.toNat < rows.length := by omega
    have hg := RW_get (l := rows) (p := t.toNat) (x := rows.getD t.toNat r0) (by rw [List.getD_eq_getElem?_getD, List.getElem?_eq_getElem hlt]; rfl)
    rw [if_pos hc]
    refine HCalls.walk Try.func64 rfl rfl Try.ntmps64 Try.results64 (by simp) ?_; simp (maxSteps := 400000) (dsimp := false) only [axs, AThen, ABlock, dstsOk, AStep, callsF, AWant, aop, AS.ev, AS.put, upd, AS.bound, abin, aint, aload, astore, cellsAt, AV.cells, alen, elems, AV.int?, FPost, aresL, ares1, pack, afill, splice, Value.oneCell', Nat.reduceLT, Nat.reduceLeDiff, Nat.reduceEqDiff, Nat.reduceAdd, Nat.reduceMul, Nat.reduceSub, Nat.reduceBEq, Int.reduceLE, Int.reduceLT, Int.reduceToNat, Int.reduceNeg, Int.reduceEq, axt, ftK, ft3, pickP, AScope, AAll, pickQ, ftQ, inHeap, Nd.cells, tys]
    refine ACallK.heap _ rfl (cLsList h t) ?_; rintro r' H' n' ⟨rfl, eH, en⟩; obtain rfl := eH.symm; obtain rfl := en.symm; clear eH en; simp (maxSteps := 400000) (dsimp := false) only [hp, hr, hg, axs, AThen, ABlock, dstsOk, AStep, callsF, AWant, aop, AS.ev, AS.put, upd, AS.bound, abin, aint, aload, astore, cellsAt, AV.cells, alen, elems, AV.int?, FPost, aresL, ares1, pack, afill, splice, Value.oneCell', Nat.reduceLT, Nat.reduceLeDiff, Nat.reduceEqDiff, Nat.reduceAdd, Nat.reduceMul, Nat.reduceSub, Nat.reduceBEq, Int.reduceLE, Int.reduceLT, Int.reduceToNat, Int.reduceNeg, Int.reduceEq, axt, ftK, ft3, pickP, AScope, AAll, pickQ, ftQ, inHeap, Nd.cells, tys]
    exact ⟨_, rfl, rfl⟩
  · have hp : lsP r rows.length t = .sc (.pointer none) := if_neg hc
    rw [if_neg hc]
    refine HCalls.walk Try.func64 rfl rfl Try.ntmps64 Try.results64 (by simp) ?_; simp (maxSteps := 400000) (dsimp := false) only [axs, AThen, ABlock, dstsOk, AStep, callsF, AWant, aop, AS.ev, AS.put, upd, AS.bound, abin, aint, aload, astore, cellsAt, AV.cells, alen, elems, AV.int?, FPost, aresL, ares1, pack, afill, splice, Value.oneCell', Nat.reduceLT, Nat.reduceLeDiff, Nat.reduceEqDiff, Nat.reduceAdd, Nat.reduceMul, Nat.reduceSub, Nat.reduceBEq, Int.reduceLE, Int.reduceLT, Int.reduceToNat, Int.reduceNeg, Int.reduceEq, axt, ftK, ft3, pickP, AScope, AAll, pickQ, ftQ, inHeap, Nd.cells, tys]
    refine ACallK.heap _ rfl (cLsList h t) ?_; rintro r' H' n' ⟨rfl, eH, en⟩; obtain rfl := eH.symm; obtain rfl := en.symm; clear eH en; simp (maxSteps := 400000) (dsimp := false) only [hp, axs, AThen, ABlock, dstsOk, AStep, callsF, AWant, aop, AS.ev, AS.put, upd, AS.bound, abin, aint, aload, astore, cellsAt, AV.cells, alen, elems, AV.int?, FPost, aresL, ares1, pack, afill, splice, Value.oneCell', Nat.reduceLT, Nat.reduceLeDiff, Nat.reduceEqDiff, Nat.reduceAdd, Nat.reduceMul, Nat.reduceSub, Nat.reduceBEq, Int.reduceLE, Int.reduceLT, Int.reduceToNat, Int.reduceNeg, Int.reduceEq, axt, ftK, ft3, pickP, AScope, AAll, pickQ, ftQ, inHeap, Nd.cells, tys]
    exact ⟨_, rfl, rfl⟩
theorem LsH.new {H : AH} {n L r a s : Nat} {fv : AV} {R : RA} {rows : List Rw} {x : Option AO} (h : LsH H n L r a s fv R rows) : LsH (upd H n x) (n + 1) L r a s fv R rows :=
  ⟨by rw [upd_ne _ _ (by have := h.lL; omega)]; exact h.hL, by rw [upd_ne _ _ (by have := h.lr; omega)]; exact h.hr, h.ar.new, by have := h.lL; omega, by have := h.lr; omega, h.nL, h.nr⟩
/-- What a node is turned by: it lies at p, its turned one is laid there. -/
def Turns (H : AH) (n f : Nat) (caps : List AV) (g : Nd → Nd) : Prop :=
  ∀ (x : Nd) (H1 : AH) (n1 p : Nat), Keeps H n H1 n1 → n ≤ p → p < n1 → H1 p = some (.obj 82 6 [x.cells] false) → HCalls Try.prog f (.ptr p 6 0 0 :: caps) H1 n1 fun v H' n' => v = .tup [] ∧ H' = upd H1 p (some (.obj 82 6 [(g x).cells] false)) ∧ n' = n1
def wH (H : AH) (n s : Nat) (R : RA) (i : Int) (g : Nd → Nd) : AH :=
  setH (upd (upd H n (some (.obj 82 6 [(raAt R i).cells] false))) (n + 1) (some (.obj 82 6 [(g (raAt R i)).cells] false))) (n + 1 + 1) s (arnOf (wth R i g)) (g (raAt R i))
theorem cLsWith {H : AH} {n L r a s : Nat} {fv : AV} {R : RA} {rows : List Rw} (h : LsH H n L r a s fv R rows) (ok : RaOk R) (i : Int) (hi : I32ok i) {f : Nat} {caps : List AV} {g : Nd → Nd} (hg : Turns H n f caps g) :
    HCalls Try.prog 78 [.ptr L 2 0 0, .sc (.int .i32 i), .fn f caps] H n fun v H' n' => v = .tup [] ∧ H' = wH H n s R i g ∧ n' = n + 1 + 1 + 1 := by
  have hL := h.hL
  have ne1 : ¬ L = n := by have := h.lL; omega
  have ne2 : ¬ L = n + 1 := by have := h.lL; omega
  refine HCalls.walk Try.func78 rfl rfl Try.ntmps78 Try.results78 (by simp) ?_; simp (maxSteps := 400000) (dsimp := false) only [hL, axs, AThen, ABlock, dstsOk, AStep, callsF, AWant, aop, AS.ev, AS.put, upd, AS.bound, abin, aint, aload, astore, cellsAt, AV.cells, alen, elems, AV.int?, FPost, aresL, ares1, pack, afill, splice, Value.oneCell', Nat.reduceLT, Nat.reduceLeDiff, Nat.reduceEqDiff, Nat.reduceAdd, Nat.reduceMul, Nat.reduceSub, Nat.reduceBEq, Int.reduceLE, Int.reduceLT, Int.reduceToNat, Int.reduceNeg, Int.reduceEq, axt, ftK, ft3, pickP, AScope, AAll, pickQ, ftQ, inHeap, Nd.cells, tys]
  refine ACallK.heap _ rfl (cRAt h.ar ok i hi) ?_; rintro r' H' n' ⟨rfl, eH, en⟩; obtain rfl := eH.symm; obtain rfl := en.symm; clear eH en; simp (maxSteps := 400000) (dsimp := false) only [hL, ne1, ne2, axs, AThen, ABlock, dstsOk, AStep, callsF, AWant, aop, AS.ev, AS.put, upd, AS.bound, abin, aint, aload, astore, cellsAt, AV.cells, alen, elems, AV.int?, FPost, aresL, ares1, pack, afill, splice, Value.oneCell', Nat.reduceLT, Nat.reduceLeDiff, Nat.reduceEqDiff, Nat.reduceAdd, Nat.reduceMul, Nat.reduceSub, Nat.reduceBEq, Int.reduceLE, Int.reduceLT, Int.reduceToNat, Int.reduceNeg, Int.reduceEq, axt, ftK, ft3, pickP, AScope, AAll, pickQ, ftQ, inHeap, Nd.cells, tys]
  simp only [upd_upd]
  refine ACallK.heap _ rfl (hg (raAt R i) _ _ (n + 1) (Keeps.refl _ _).upd.upd (by omega) (Nat.lt_succ_self _) (by simp [upd, neS]; rfl)) ?_
  rintro v H' n' ⟨rfl, rfl, rfl⟩
  rw [upd_upd]
  simp (maxSteps := 400000) (dsimp := false) only [axs, AThen, ABlock, dstsOk, AStep, callsF, AWant, aop, AS.ev, AS.put, upd, AS.bound, abin, aint, aload, astore, cellsAt, AV.cells, alen, elems, AV.int?, FPost, aresL, ares1, pack, afill, splice, Value.oneCell', Nat.reduceLT, Nat.reduceLeDiff, Nat.reduceEqDiff, Nat.reduceAdd, Nat.reduceMul, Nat.reduceSub, Nat.reduceBEq, Int.reduceLE, Int.reduceLT, Int.reduceToNat, Int.reduceNeg, Int.reduceEq, axt, ftK, ft3, pickP, AScope, AAll, pickQ, ftQ, inHeap, Nd.cells, tys]
  refine ADraw.planQR [6] [] [(0, true), (1, true), (2, true), (3, true), (4, true), (5, true), (6, true)] [(0, 0), (0, 0), (0, 0), (0, 0), (0, 0), (0, 0), (0, 1)] mixed (by kernel_rfl) (by kernel_rfl) ?_
  simp (maxSteps := 400000) (dsimp := false) only [hL, ne1, ne2, axs, AThen, ABlock, dstsOk, AStep, callsF, AWant, aop, AS.ev, AS.put, upd, AS.bound, abin, aint, aload, astore, cellsAt, AV.cells, alen, elems, AV.int?, FPost, aresL, ares1, pack, afill, splice, Value.oneCell', Nat.reduceLT, Nat.reduceLeDiff, Nat.reduceEqDiff, Nat.reduceAdd, Nat.reduceMul, Nat.reduceSub, Nat.reduceBEq, Int.reduceLE, Int.reduceLT, Int.reduceToNat, Int.reduceNeg, Int.reduceEq, axt, ftK, ft3, pickP, AScope, AAll, pickQ, ftQ, inHeap, Nd.cells, tys]
  refine ASoloK.heap rfl rfl (cRSet h.new.new.ar ok i hi (g (raAt R i))) ?_; simp (maxSteps := 400000) (dsimp := false) only [axs, AThen, ABlock, dstsOk, AStep, callsF, AWant, aop, AS.ev, AS.put, upd, AS.bound, abin, aint, aload, astore, cellsAt, AV.cells, alen, elems, AV.int?, FPost, aresL, ares1, pack, afill, splice, Value.oneCell', Nat.reduceLT, Nat.reduceLeDiff, Nat.reduceEqDiff, Nat.reduceAdd, Nat.reduceMul, Nat.reduceSub, Nat.reduceBEq, Int.reduceLE, Int.reduceLT, Int.reduceToNat, Int.reduceNeg, Int.reduceEq, axt, ftK, ft3, pickP, AScope, AAll, pickQ, ftQ, inHeap, Nd.cells, tys]
  exact ⟨_, rfl, rfl, rfl⟩
end Go.Al
end
