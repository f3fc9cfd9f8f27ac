/- Lists of places: what the program's acts make of nodes and rows, of rows alone. Conditions: none. -/
import Derived.Test.YtdebjhjnpomlmaaAn9
set_option linter.unusedVariables false
set_option linter.unusedSimpArgs false
set_option maxHeartbeats 1600000
namespace Go.Al
theorem raSet_is (R : RA) (i : Int) (x : Nd) (k : Int) : raIs (raSet R i x).1 k = raIs R k := by
  unfold raSet
  split <;> rfl
theorem raSet_at' {R : RA} (ok : RaOk R) (i : Int) (x : Nd) (k : Int) : raAt (raSet R i x).1 k = if raIs R i = true ∧ k = i then x else raAt R k := by
  by_cases hi : raIs R i = true
  · have hs : raSet R i x = (⟨R.len, R.ever, R.freed, R.nodes.set i.toNat x⟩, true) := if_pos hi
    have hk : ∀ k, raIs ⟨R.len, R.ever, R.freed, R.nodes.set i.toNat x⟩ k = raIs R k := fun k => rfl
    obtain ⟨g0, g1, _⟩ := ra_rng ok hi
    have hlt : i.toNat < R.nodes.length := by rw [ok.nd]; omega
    rw [hs]
    unfold raAt
    rw [hk]
    by_cases e : k = i
    · subst e
      rw [if_pos hi, if_pos ⟨hi, rfl⟩]
      simp [List.getD_eq_getElem?_getD, hlt]
    · rw [if_neg (fun h : raIs R i = true ∧ k = i => e h.2)]
      by_cases hr : raIs R k = true
      · rw [if_pos hr, if_pos hr]
        obtain ⟨q0, q1, _⟩ := ra_rng ok hr
        have : ¬ i.toNat = k.toNat := by omega
        simp [List.getD_eq_getElem?_getD, List.getElem?_set, this]
      · rw [if_neg hr, if_neg hr]
  · have hs : raSet R i x = (R, false) := if_neg hi
    rw [hs, if_neg (fun h : raIs R i = true ∧ k = i => hi h.1)]
/-- A list's row: its front, its back, how many. -/
structure Rw where
  f : Int
  b : Int
  n : Int
  deriving DecidableEq, Inhabited
def r0 : Rw := ⟨0, 0, 0⟩
/-- A node is taken out, turned, and laid back. -/
def wth (R : RA) (i : Int) (g : Nd → Nd) : RA := (raSet R i (g (raAt R i))).1
theorem wth_is (R : RA) (i : Int) (g : Nd → Nd) (k : Int) : raIs (wth R i g) k = raIs R k := raSet_is _ _ _ _
theorem wth_at {R : RA} (ok : RaOk R) (i : Int) (g : Nd → Nd) (k : Int) : raAt (wth R i g) k = if raIs R i = true ∧ k = i then g (raAt R i) else raAt R k := raSet_at' ok _ _ _
theorem wth_ok {R : RA} (ok : RaOk R) (i : Int) (g : Nd → Nd) : RaOk (wth R i g) := (arSet_of ok i _).2
def gNext (i : Int) (x : Nd) : Nd := ⟨x.key, x.val, x.flag, x.tag, x.prev, i⟩
def gPrev (i : Int) (x : Nd) : Nd := ⟨x.key, x.val, x.flag, x.tag, i, x.next⟩
def gLay (t p n : Int) (x : Nd) : Nd := ⟨x.key, x.val, x.flag, t + 1, p, n⟩
def gOff (x : Nd) : Nd := ⟨x.key, x.val, x.flag, 0, 0, 0⟩
def joinR (R : RA) (w : Rw) (p i : Int) : RA × Rw :=
  let a : RA × Rw := if p = 0 then (R, ⟨i, w.b, w.n⟩) else (wth R p (gNext i), w)
  if i = 0 then (a.1, ⟨a.2.f, p, a.2.n⟩) else (wth a.1 i (gPrev p), a.2)
def layR (R : RA) (w : Rw) (t p i n : Int) : RA × Rw :=
  let a := joinR (wth R i (gLay t p n)) w p i
  let b := joinR a.1 a.2 i n
  (b.1, ⟨b.2.f, b.2.b, b.2.n + 1⟩)
def offR (R : RA) (w : Rw) (i : Int) : RA × Rw :=
  let a := joinR R w (raAt R i).prev (raAt R i).next
  (wth a.1 i gOff, ⟨a.2.f, a.2.b, a.2.n - 1⟩)
/-- The one ahead, and the one behind. -/
def prv (l : List Int) (p : Nat) : Int := if p = 0 then 0 else l.getD (p - 1) 0
def nxt (l : List Int) (p : Nat) : Int := l.getD (p + 1) 0
/-- What ties nodes and rows to lists. -/
structure LInv (R : RA) (rows : List Rw) (ls : List (List Int)) : Prop where
  ok : RaOk R
  len : rows.length = ls.length
  row : ∀ (t : Nat) (l : List Int), ls[t]? = some l → rows[t]? = some ⟨l.headD 0, l.getLastD 0, l.length⟩
  live : ∀ (t : Nat) (l : List Int), ls[t]? = some l → ∀ i ∈ l, raIs R i = true
  one : ∀ (t : Nat) (l : List Int), ls[t]? = some l → l.Nodup
  apart : ∀ (t u : Nat) (l m : List Int), ls[t]? = some l → ls[u]? = some m → ∀ i, i ∈ l → i ∈ m → t = u
  node : ∀ (t : Nat) (l : List Int), ls[t]? = some l → ∀ (p : Nat) (i : Int), l[p]? = some i → (raAt R i).tag = (t : Int) + 1 ∧ (raAt R i).prev = prv l p ∧ (raAt R i).next = nxt l p
  none : ∀ i, (∀ (t : Nat) (l : List Int), ls[t]? = some l → i ∉ l) → (raAt R i).tag = 0 ∧ (raAt R i).prev = 0 ∧ (raAt R i).next = 0
theorem joinR_ok {R : RA} (ok : RaOk R) (w : Rw) (p i : Int) : RaOk (joinR R w p i).1 ∧ ∀ k, raIs (joinR R w p i).1 k = raIs R k := by
  unfold joinR
  by_cases hp : p = 0 <;> by_cases hi : i = 0 <;> simp only [hp, hi, if_true, if_false]
  · exact ⟨ok, fun _ => trivial⟩
  · exact ⟨wth_ok ok _ _, fun k => wth_is _ _ _ _⟩
  · exact ⟨wth_ok ok _ _, fun k => wth_is _ _ _ _⟩
  · exact ⟨wth_ok (wth_ok ok _ _) _ _, fun k => by rw [wth_is, wth_is]⟩
theorem layR_at {R : RA} (ok : RaOk R) (w : Rw) {t p i n : Int} (hi : raIs R i = true) (hp : p ≠ 0 → raIs R p = true ∧ p ≠ i) (hn : n ≠ 0 → raIs R n = true ∧ n ≠ i) (hpn : p = 0 ∨ n = 0) (k : Int) :
    raAt (layR R w t p i n).1 k = if k = i then gLay t p n (raAt R i) else if p ≠ 0 ∧ k = p then gNext i (raAt R p) else if n ≠ 0 ∧ k = n then gPrev i (raAt R n) else raAt R k := by
  have i0 := (ra_rng ok hi).1
  have hi0 : ¬ i = 0 := by omega
  have o1 := wth_ok ok i (gLay t p n)
  by_cases p0 : p = 0
  · subst p0
    by_cases n0 : n = 0
    · subst n0
      unfold layR joinR
      simp only [hi0, if_true, if_false]
      rw [wth_at (wth_ok o1 _ _), wth_at o1, wth_at o1, wth_at ok, wth_at ok, wth_is, wth_is]
      by_cases e : k = i
      · simp [e, hi, gNext, gPrev, gLay]
      · simp [e]
    · obtain ⟨h1, h2⟩ := hn n0
      have h2' : ¬ i = n := fun e => h2 e.symm
      unfold layR joinR
      simp only [hi0, n0, if_true, if_false]
      rw [wth_at (wth_ok (wth_ok o1 _ _) _ _), wth_at (wth_ok o1 _ _), wth_at (wth_ok o1 _ _), wth_at o1, wth_at o1, wth_at o1, wth_at ok, wth_at ok, wth_at ok, wth_is, wth_is, wth_is, wth_is]
      by_cases e : k = i
      · simp [e, hi, h1, h2, h2', gNext, gPrev, gLay]
      · by_cases e2 : k = n
        · simp [e2, hi, h1, h2, h2', n0, gNext, gPrev, gLay, wth_is]
        · simp [e, e2]
  · have n0 : n = 0 := by omega
    subst n0
    obtain ⟨h1, h2⟩ := hp p0
    have h2' : ¬ i = p := fun e => h2 e.symm
    unfold layR joinR
    simp only [hi0, p0, if_true, if_false]
    rw [wth_at (wth_ok (wth_ok o1 _ _) _ _), wth_at (wth_ok o1 _ _), wth_at (wth_ok o1 _ _), wth_at o1, wth_at o1, wth_at ok, wth_at ok, wth_at ok, wth_is, wth_is, wth_is]
    by_cases e : k = i
    · simp [e, hi, h1, h2, h2', gNext, gPrev, gLay]
    · by_cases e2 : k = p
      · simp [e2, hi, h1, h2, h2', p0, gNext, gPrev, gLay, wth_is]
      · simp [e, e2]
theorem layR_row {R : RA} (w : Rw) {t p i n : Int} (hi : i ≠ 0) : (layR R w t p i n).2 = ⟨if p = 0 then i else w.f, if n = 0 then i else w.b, w.n + 1⟩ := by
  unfold layR joinR
  by_cases p0 : p = 0 <;> by_cases n0 : n = 0 <;> simp [p0, n0, hi]
end Go.Al
