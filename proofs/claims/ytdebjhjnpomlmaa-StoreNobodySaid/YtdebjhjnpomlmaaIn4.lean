/- Lists of places: taking out keeps what ties nodes and rows to lists, of rows alone. Conditions: none. -/
import Derived.Test.YtdebjhjnpomlmaaIn3
set_option linter.unusedVariables false
set_option linter.unusedSimpArgs false
set_option maxHeartbeats 1600000
namespace Go.Al
theorem joinR_at {R : RA} (ok : RaOk R) (w : Rw) {p n : Int} (hp : p ≠ 0 → raIs R p = true) (hn : n ≠ 0 → raIs R n = true) (hpn : p ≠ 0 → n ≠ 0 → p ≠ n) (k : Int) :
    raAt (joinR R w p n).1 k = if p ≠ 0 ∧ k = p then gNext n (raAt R p) else if n ≠ 0 ∧ k = n then gPrev p (raAt R n) else raAt R k := by
  unfold joinR
  by_cases p0 : p = 0 <;> by_cases n0 : n = 0
  · simp [p0, n0]
  · have h1 := hn n0
    simp only [p0, n0, if_true, if_false]
    rw [wth_at ok]
    simp [h1, p0, n0]
  · have h1 := hp p0
    simp only [p0, n0, if_true, if_false]
    rw [wth_at ok]
    simp [h1, p0, n0]
  · have h1 := hn n0
    have h2 := hp p0
    have h3 := hpn p0 n0
    have h3' : ¬ n = p := fun e => h3 e.symm
    simp only [p0, n0, if_false]
    rw [wth_at (wth_ok ok _ _), wth_at ok, wth_at ok, wth_is]
    by_cases e : k = n
    · subst e; simp [h1, h3', n0]
    · by_cases e2 : k = p
      · subst e2; simp [h2, e, p0]
      · simp [e, e2]
theorem joinR_row (R : RA) (w : Rw) (p n : Int) : (joinR R w p n).2 = ⟨if p = 0 then n else w.f, if n = 0 then p else w.b, w.n⟩ := by
  unfold joinR
  by_cases p0 : p = 0 <;> by_cases n0 : n = 0 <;> simp [p0, n0]
theorem get_some {l : List Int} {j : Nat} (h : j < l.length) : l[j]? = some (l.getD j 0) := by
  rw [List.getD_eq_getElem?_getD, List.getElem?_eq_getElem h]; rfl
theorem get_none {l : List Int} {j : Nat} (h : ¬ j < l.length) : l.getD j 0 = 0 := by
  rw [List.getD_eq_getElem?_getD, List.getElem?_eq_none (by omega)]; rfl
theorem erase_get (l : List Int) (q j : Nat) (hq : q < l.length) : (l.eraseIdx q).getD j 0 = if j < q then l.getD j 0 else l.getD (j + 1) 0 := by
  rw [List.getD_eq_getElem?_getD, List.getElem?_eraseIdx]
  split <;> rw [List.getD_eq_getElem?_getD]
theorem erase_get? (l : List Int) (q j : Nat) : (l.eraseIdx q)[j]? = if j < q then l[j]? else l[j + 1]? := List.getElem?_eraseIdx
/-- Taken out. -/
theorem LInv.off {R : RA} {rows : List Rw} {ls : List (List Int)} (h : LInv R rows ls) {t q : Nat} {l : List Int} {i : Int} (hl : ls[t]? = some l) (hq : l[q]? = some i) :
    LInv (offR R ⟨l.headD 0, l.getLastD 0, l.length⟩ i).1 (rows.set t (offR R ⟨l.headD 0, l.getLastD 0, l.length⟩ i).2) (ls.set t (l.eraseIdx q)) := by
  have ok := h.ok
  have hql := (List.getElem?_eq_some_iff.1 hq).1
  obtain ⟨m1, m2, m3⟩ := h.node t l hl q i hq
  have hil := List.mem_of_getElem? hq
  have hi := h.live t l hl i hil
  have hnd := h.one t l hl
  have inj : ∀ a b : Nat, a < l.length → l[a]? = l[b]? → a = b := fun a b ha e => (List.getElem?_inj ha hnd).1 e
  have liv : ∀ j, j < l.length → raIs R (l.getD j 0) = true := fun j hj => h.live t l hl _ (List.mem_of_getElem? (get_some hj))
  have nz : ∀ j, j < l.length → l.getD j 0 ≠ 0 := fun j hj => live_ne ok (liv j hj)
  have pz : prv l q = 0 ↔ q = 0 := by
    unfold prv
    by_cases e : q = 0
    · simp [e]
    · rw [if_neg e]; exact ⟨fun hh => absurd hh (nz _ (by omega)), fun hh => absurd hh e⟩
  have nzq : nxt l q = 0 ↔ ¬ q + 1 < l.length := by
    unfold nxt
    exact ⟨fun hh hlt => nz _ hlt hh, fun hh => get_none hh⟩
  have pget : q ≠ 0 → l[q - 1]? = some (prv l q) := fun e => by unfold prv; rw [if_neg e]; exact get_some (by omega)
  have nget : q + 1 < l.length → l[q + 1]? = some (nxt l q) := fun e => get_some e
  have hp : prv l q ≠ 0 → raIs R (prv l q) = true := fun e => h.live t l hl _ (List.mem_of_getElem? (pget (fun e2 => e (pz.2 e2))))
  have hn : nxt l q ≠ 0 → raIs R (nxt l q) = true := fun e => h.live t l hl _ (List.mem_of_getElem? (nget (Classical.byContradiction fun e2 => e (nzq.2 e2))))
  have hpn : prv l q ≠ 0 → nxt l q ≠ 0 → prv l q ≠ nxt l q := by
    intro e1 e2 e3
    have a1 := pget (fun e => e1 (pz.2 e))
    have a2 := nget (Classical.byContradiction fun e => e2 (nzq.2 e))
    have := inj (q - 1) (q + 1) (by omega) (by rw [a1, a2, e3])
    omega
  have hj := joinR_ok ok ⟨l.headD 0, l.getLastD 0, l.length⟩ (prv l q) (nxt l q)
  have hat : ∀ k, raAt (offR R ⟨l.headD 0, l.getLastD 0, l.length⟩ i).1 k = if k = i then gOff (raAt (joinR R ⟨l.headD 0, l.getLastD 0, l.length⟩ (prv l q) (nxt l q)).1 i) else if prv l q ≠ 0 ∧ k = prv l q then gNext (nxt l q) (raAt R (prv l q)) else if nxt l q ≠ 0 ∧ k = nxt l q then gPrev (prv l q) (raAt R (nxt l q)) else raAt R k := by
    intro k
    unfold offR
    simp only [m2, m3]
    rw [wth_at hj.1, hj.2]
    by_cases e : k = i
    · rw [if_pos ⟨hi, e⟩, if_pos e]
    · rw [if_neg (fun hh : raIs R i = true ∧ k = i => e hh.2), if_neg e, joinR_at ok _ hp hn hpn]
  have hrow : (offR R ⟨l.headD 0, l.getLastD 0, l.length⟩ i).2 = ⟨if prv l q = 0 then nxt l q else l.headD 0, if nxt l q = 0 then prv l q else l.getLastD 0, (l.length : Int) - 1⟩ := by
    unfold offR
    simp only [m2, m3]
    rw [joinR_row]
  have hok : RaOk (offR R ⟨l.headD 0, l.getLastD 0, l.length⟩ i).1 ∧ ∀ k, raIs (offR R ⟨l.headD 0, l.getLastD 0, l.length⟩ i).1 k = raIs R k := by
    unfold offR
    simp only [m2, m3]
    exact ⟨wth_ok hj.1 _ _, fun k => by rw [wth_is, hj.2]⟩
  have hlen : (l.eraseIdx q).length = l.length - 1 := by rw [List.length_eraseIdx, if_pos hql]
  have hmem : ∀ k, k ∈ l.eraseIdx q → k ∈ l ∧ k ≠ i := by
    intro k hk
    obtain ⟨j, hj1, rfl⟩ := List.mem_iff_getElem.1 hk
    have hjj : (l.eraseIdx q)[j]? = some (l.eraseIdx q)[j] := List.getElem?_eq_getElem hj1
    generalize (l.eraseIdx q)[j] = k at *
    rw [erase_get?] at hjj
    by_cases e : j < q
    · rw [if_pos e] at hjj
      exact ⟨List.mem_of_getElem? hjj, fun e2 => by have := inj j q (by omega) (by rw [hjj, hq, e2]); omega⟩
    · rw [if_neg e] at hjj
      exact ⟨List.mem_of_getElem? hjj, fun e2 => by have := inj (j + 1) q (List.getElem?_eq_some_iff.1 hjj).1 (by rw [hjj, hq, e2]); omega⟩
  have hmem2 : ∀ k, k ∈ l → k ≠ i → k ∈ l.eraseIdx q := by
    intro k hk hki
    obtain ⟨j, hj1, rfl⟩ := List.mem_iff_getElem.1 hk
    have hjj : l[j]? = some l[j] := List.getElem?_eq_getElem hj1
    generalize l[j] = k at *
    by_cases e : j < q
    · exact List.mem_of_getElem? (i := j) (by rw [erase_get?, if_pos e]; exact hjj)
    · have : j ≠ q := by rintro rfl; rw [hjj] at hq; exact hki (Option.some.inj hq)
      exact List.mem_of_getElem? (i := j - 1) (by rw [erase_get?, if_neg (by omega), show j - 1 + 1 = j by omega]; exact hjj)
  refine h.put hl hok.1 hok.2 ?_ ?_ ?_ ?_ ?_ ?_ ?_
  · rw [hrow]
    have e1 : (l.eraseIdx q).headD 0 = if prv l q = 0 then nxt l q else l.headD 0 := by
      have hd : ∀ m : List Int, m.headD 0 = m.getD 0 0 := fun m => by cases m <;> rfl
      rw [hd, hd, erase_get _ _ _ hql]
      by_cases e : q = 0
      · rw [if_neg (by omega), if_pos (pz.2 e), e]; rfl
      · rw [if_pos (by omega), if_neg (fun hh => e (pz.1 hh))]
    have e2 : (l.eraseIdx q).getLastD 0 = if nxt l q = 0 then prv l q else l.getLastD 0 := by
      rw [lastD_get, lastD_get, hlen, erase_get _ _ _ hql]
      by_cases e : q + 1 < l.length
      · rw [if_neg (by omega), if_neg (fun hh => nzq.1 hh e), show l.length - 1 - 1 + 1 = l.length - 1 by omega]
      · rw [if_pos (nzq.2 e)]
        unfold prv
        by_cases e0 : q = 0
        · rw [if_neg (by omega), if_pos e0, get_none (by omega)]
        · rw [if_pos (by omega), if_neg e0, show l.length - 1 - 1 = q - 1 by omega]
    rw [e1, e2, hlen]
    congr 1
    omega
  · intro k hk; exact h.live t l hl k (hmem k hk).1
  · exact hnd.sublist (List.eraseIdx_sublist _ _)
  · intro k hk; exact .inl (hmem k hk).1
  · intro j k hk
    have hkm := hmem k (List.mem_of_getElem? hk)
    rw [hat, if_neg hkm.2]
    have hjl : j < l.length - 1 := by have := (List.getElem?_eq_some_iff.1 hk).1; omega
    rw [erase_get?] at hk
    have hnx : nxt (l.eraseIdx q) j = if j + 1 < q then l.getD (j + 1) 0 else l.getD (j + 2) 0 := by unfold nxt; rw [erase_get _ _ _ hql]
    have hpv : prv (l.eraseIdx q) j = if j = 0 then 0 else if j - 1 < q then l.getD (j - 1) 0 else l.getD j 0 := by
      unfold prv
      by_cases e : j = 0
      · rw [if_pos e, if_pos e]
      · rw [if_neg e, if_neg e, erase_get _ _ _ hql, show j - 1 + 1 = j by omega]
    by_cases e : j < q
    · rw [if_pos e] at hk
      obtain ⟨n1, n2, n3⟩ := h.node t l hl j k hk
      have hkp : k = prv l q ↔ j = q - 1 := by
        have a1 := pget (by omega)
        exact ⟨fun e2 => inj j (q - 1) (by omega) (by rw [hk, a1, e2]), fun e2 => by rw [← e2, hk] at a1; exact Option.some.inj a1⟩
      have hkn : ¬ (nxt l q ≠ 0 ∧ k = nxt l q) := by
        rintro ⟨e1, e2⟩
        have a2 := nget (Classical.byContradiction fun e => e1 (nzq.2 e))
        have := inj j (q + 1) (by omega) (by rw [hk, a2, e2])
        omega
      have hpj : prv (l.eraseIdx q) j = prv l j := by
        rw [hpv]; unfold prv
        by_cases e0 : j = 0
        · rw [if_pos e0, if_pos e0]
        · rw [if_neg e0, if_neg e0, if_pos (by omega)]
      by_cases e3 : j = q - 1
      · have hk2 := hkp.2 e3
        rw [if_pos ⟨fun hh => by have := pz.1 hh; omega, hk2⟩, ← hk2]
        refine ⟨n1, by rw [hpj]; exact n2, ?_⟩
        show nxt l q = _
        rw [hnx, if_neg (by omega), show j + 2 = q + 1 by omega]; rfl
      · rw [if_neg (fun hh : prv l q ≠ 0 ∧ k = prv l q => e3 (hkp.1 hh.2)), if_neg hkn]
        refine ⟨n1, by rw [hpj]; exact n2, ?_⟩
        rw [n3, hnx, if_pos (by omega)]; rfl
    · rw [if_neg e] at hk
      obtain ⟨n1, n2, n3⟩ := h.node t l hl (j + 1) k hk
      have hkp : ¬ (prv l q ≠ 0 ∧ k = prv l q) := by
        rintro ⟨e1, e2⟩
        have a1 := pget (fun e => e1 (pz.2 e))
        have := inj (j + 1) (q - 1) (by omega) (by rw [hk, a1, e2])
        omega
      have hkn : k = nxt l q ↔ j = q := by
        have a2 := nget (by omega)
        refine ⟨fun e2 => ?_, fun e2 => ?_⟩
        · have := inj (j + 1) (q + 1) (by omega) (by rw [hk, a2, e2]); omega
        · rw [← e2, hk] at a2; rw [← e2]; exact Option.some.inj a2
      have hnj : (raAt R k).next = nxt (l.eraseIdx q) j := by rw [n3, hnx, if_neg (by omega)]; rfl
      rw [if_neg hkp]
      by_cases e3 : j = q
      · have hk2 := hkn.2 e3
        rw [if_pos ⟨fun hh => nzq.1 hh (by omega), hk2⟩, ← hk2]
        refine ⟨n1, ?_, hnj⟩
        show prv l q = _
        rw [hpv]
        unfold prv
        subst e3
        by_cases e0 : j = 0
        · rw [if_pos e0, if_pos e0]
        · rw [if_neg e0, if_neg e0, if_pos (by omega)]
      · rw [if_neg (fun hh : nxt l q ≠ 0 ∧ k = nxt l q => e3 (hkn.1 hh.2))]
        refine ⟨n1, ?_, hnj⟩
        rw [n2, hpv, if_neg (by omega), if_neg (by omega)]
        unfold prv
        rw [if_neg (by omega)]
        rfl
  · intro k h1 h2
    have hki : k ≠ i := fun e => h2 (by rw [e]; exact hil)
    rw [hat, if_neg hki, if_neg, if_neg]
    · rintro ⟨e1, e2⟩
      exact h2 (by rw [e2]; exact List.mem_of_getElem? (nget (Classical.byContradiction fun e => e1 (nzq.2 e))))
    · rintro ⟨e1, e2⟩
      exact h2 (by rw [e2]; exact List.mem_of_getElem? (pget (fun e => e1 (pz.2 e))))
  · intro k h1 h2
    have hki : k = i := Classical.byContradiction fun e => h1 (hmem2 k h2 e)
    rw [hat, if_pos hki]
    exact ⟨rfl, rfl, rfl⟩
end Go.Al
