/- Lists of places: each act keeps what ties nodes and rows to lists, of rows alone. Conditions: few places. -/
import Derived.Test.YtdebjhjnpomlmaaIn11
import Derived.Test.YtdebjhjnpomlmaaIn12
set_option linter.unusedVariables false
set_option linter.unusedSimpArgs false
set_option maxHeartbeats 1600000
namespace Go.Al
/-- What acts on lists leave of an arena. -/
structure Same (R R' : RA) : Prop where
  len : R'.len = R.len
  ever : R'.ever = R.ever
  freed : R'.freed = R.freed
  kvf : ∀ k, (raAt R' k).key = (raAt R k).key ∧ (raAt R' k).val = (raAt R k).val ∧ (raAt R' k).flag = (raAt R k).flag
theorem Same.refl (R : RA) : Same R R := ⟨rfl, rfl, rfl, fun _ => ⟨rfl, rfl, rfl⟩⟩
theorem Same.trans {R R' R'' : RA} (a : Same R R') (b : Same R' R'') : Same R R'' :=
  ⟨b.len.trans a.len, b.ever.trans a.ever, b.freed.trans a.freed, fun k => ⟨(b.kvf k).1.trans (a.kvf k).1, (b.kvf k).2.1.trans (a.kvf k).2.1, (b.kvf k).2.2.trans (a.kvf k).2.2⟩⟩
theorem Same.is {R R' : RA} (h : Same R R') (k : Int) : raIs R' k = raIs R k := by
  unfold raIs; rw [h.ever, h.freed]
theorem Same.wth {R : RA} (ok : RaOk R) (i : Int) {g : Nd → Nd} (hg : ∀ x, (g x).key = x.key ∧ (g x).val = x.val ∧ (g x).flag = x.flag) : Same R (wth R i g) := by
  refine ⟨?_, ?_, ?_, fun k => ?_⟩
  · unfold Al.wth raSet; split <;> rfl
  · unfold Al.wth raSet; split <;> rfl
  · unfold Al.wth raSet; split <;> rfl
  · rw [wth_at ok]
    split
    · rename_i hh; rw [hh.2]; exact hg _
    · exact ⟨rfl, rfl, rfl⟩
theorem Same.join {R : RA} (ok : RaOk R) (w : Rw) (p i : Int) : Same R (joinR R w p i).1 := by
  unfold joinR
  have g1 : Same R (Al.wth R p (gNext i)) := Same.wth ok _ fun x => ⟨rfl, rfl, rfl⟩
  by_cases hp : p = 0 <;> by_cases hi : i = 0 <;> simp only [hp, hi, if_true, if_false]
  · exact Same.refl _
  · exact Same.wth ok _ fun x => ⟨rfl, rfl, rfl⟩
  · exact Same.wth ok _ fun x => ⟨rfl, rfl, rfl⟩
  · exact g1.trans (Same.wth (wth_ok ok _ _) _ fun x => ⟨rfl, rfl, rfl⟩)
theorem Same.lay {R : RA} (ok : RaOk R) (w : Rw) (t p i n : Int) : Same R (layR R w t p i n).1 := by
  unfold layR
  have o1 := wth_ok ok i (gLay t p n)
  have g1 : Same R (Al.wth R i (gLay t p n)) := Same.wth ok _ fun x => ⟨rfl, rfl, rfl⟩
  exact g1.trans ((Same.join o1 w p i).trans (Same.join (joinR_ok o1 w p i).1 _ i n))
theorem Same.off {R : RA} (ok : RaOk R) (w : Rw) (i : Int) : Same R (offR R w i).1 := by
  unfold offR
  exact (Same.join ok w _ _).trans (Same.wth (joinR_ok ok w _ _).1 _ fun x => ⟨rfl, rfl, rfl⟩)
theorem Same.layS {R : RA} (ok : RaOk R) (rows : List Rw) (t p i n : Int) : Same R (layS R rows t p i n).1 := by
  unfold Al.layS
  split
  · exact Same.lay ok _ _ _ _ _
  · exact Same.refl _
theorem Same.offS {R : RA} (ok : RaOk R) (rows : List Rw) (i : Int) : Same R (offS R rows i).1 := by
  unfold Al.offS
  split
  · exact Same.off ok _ _
  · exact Same.refl _
theorem layS_len (R : RA) (rows : List Rw) (t p i n : Int) : (layS R rows t p i n).2.length = rows.length := by
  unfold layS; split <;> simp
theorem offS_len (R : RA) (rows : List Rw) (i : Int) : (offS R rows i).2.length = rows.length := by
  unfold offS; split <;> simp
section
variable {R : RA} {rows : List Rw} {ls : List (List Int)}
theorem LInv.tagD (h : LInv R rows ls) (i : Int) : (∃ (t : Nat) (l : List Int) (q : Nat), ls[t]? = some l ∧ l[q]? = some i ∧ (raAt R i).tag = (t : Int) + 1) ∨ ((∀ (t : Nat) (l : List Int), ls[t]? = some l → i ∉ l) ∧ (raAt R i).tag = 0) := by
  by_cases hin : ∀ (t : Nat) (l : List Int), ls[t]? = some l → i ∉ l
  · exact .inr ⟨hin, (h.none i hin).1⟩
  · obtain ⟨t, l, h1, h2⟩ : ∃ (t : Nat) (l : List Int), ls[t]? = some l ∧ i ∈ l := Classical.byContradiction fun hno => hin fun t l h1 h2 => hno ⟨t, l, h1, h2⟩
    obtain ⟨q, hq⟩ := List.getElem?_of_mem h2
    exact .inl ⟨t, l, q, h1, hq, (h.node t l h1 q i hq).1⟩
theorem LInv.at (h : LInv R rows ls) {t : Nat} (ht : t < rows.length) : ∃ l, ls[t]? = some l ∧ rows.getD t r0 = ⟨l.headD 0, l.getLastD 0, l.length⟩ := by
  have hl : t < ls.length := by rw [← h.len]; exact ht
  refine ⟨ls[t], List.getElem?_eq_getElem hl, ?_⟩
  rw [List.getD_eq_getElem?_getD, h.row t _ (List.getElem?_eq_getElem hl)]
  rfl
theorem LInv.fine (h : LInv R rows ls) (h8 : ls.length ≤ 100) (he : R.ever ≤ 1000) (i : Int) (hi : I32ok i) : Fine R rows i := by
  have e0 := h.ok.e0
  have mem : ∀ (t : Nat) (l : List Int), ls[t]? = some l → ∀ k ∈ l, 0 < k ∧ k ≤ R.ever := fun t l hl k hk => ⟨(ra_rng h.ok (h.live t l hl k hk)).1, (ra_rng h.ok (h.live t l hl k hk)).2.1⟩
  have get : ∀ (t : Nat) (l : List Int), ls[t]? = some l → ∀ j, I32ok (l.getD j 0) := by
    intro t l hl j
    by_cases hj : j < l.length
    · have := mem t l hl _ (List.mem_of_getElem? (get_some hj))
      exact ⟨by omega, by omega⟩
    · rw [get_none hj]; exact i32_0
  have pv : ∀ (t : Nat) (l : List Int), ls[t]? = some l → ∀ q, I32ok (prv l q) := by
    intro t l hl q
    unfold prv
    split
    · exact i32_0
    · exact get t l hl _
  refine ⟨h.ok, hi, ?_, ?_, ?_, ?_, by rw [h.len]; omega, ?_⟩
  · rcases h.tagD i with ⟨t, l, q, h1, h2, h3⟩ | ⟨_, h3⟩ <;> rw [h3] <;> omega
  · rcases h.tagD i with ⟨t, l, q, h1, h2, h3⟩ | ⟨_, h3⟩ <;> rw [h3]
    · have := (List.getElem?_eq_some_iff.1 h1).1
      omega
    · omega
  · rcases h.tagD i with ⟨t, l, q, h1, h2, h3⟩ | ⟨h2, h3⟩
    · rw [(h.node t l h1 q i h2).2.1]; exact pv t l h1 q
    · rw [(h.none i h2).2.1]; exact i32_0
  · rcases h.tagD i with ⟨t, l, q, h1, h2, h3⟩ | ⟨h2, h3⟩
    · rw [(h.node t l h1 q i h2).2.2]; exact get t l h1 (q + 1)
    · rw [(h.none i h2).2.2]; exact i32_0
  · intro w hw
    obtain ⟨t, ht⟩ := List.getElem?_of_mem hw
    have hlt := (List.getElem?_eq_some_iff.1 ht).1
    obtain ⟨l, hl, hr⟩ := h.at hlt
    rw [List.getD_eq_getElem?_getD, ht] at hr
    have hr : w = ⟨l.headD 0, l.getLastD 0, l.length⟩ := hr
    subst hr
    have hp := pigeon R.ever.toNat l (h.one t l hl) (fun k hk => by have := mem t l hl k hk; omega)
    refine ⟨⟨by show (0 : Int) ≤ (l.length : Int); omega, by show (l.length : Int) ≤ 1000; omega⟩, ?_, ?_⟩
    · show I32ok (l.headD 0)
      have : l.headD 0 = l.getD 0 0 := by cases l <;> rfl
      rw [this]; exact get t l hl 0
    · show I32ok (l.getLastD 0)
      rw [lastD_get]; exact get t l hl _
/-- A list is put for another one. -/
def pushL (ls : List (List Int)) (t : Int) (i : Int) (front : Bool) : List (List Int) := ls.set t.toNat (if front then i :: ls.getD t.toNat [] else ls.getD t.toNat [] ++ [i])
theorem layOk_iff {t i : Int} : layOk R rows t i = true ↔ (0 ≤ t ∧ t < rows.length) ∧ raIs R i = true ∧ (raAt R i).tag = 0 := by
  unfold layOk
  simp only [Bool.and_eq_true, decide_eq_true_eq]
  exact and_assoc
theorem LInv.pushF (h : LInv R rows ls) {t i : Int} (hlo : layOk R rows t i = true) : LInv (layS R rows t 0 i (frontR rows t)).1 (layS R rows t 0 i (frontR rows t)).2 (pushL ls t i true) := by
  obtain ⟨hc, his, htag⟩ := layOk_iff.1 hlo
  obtain ⟨l, hl, hr⟩ := h.at (t := t.toNat) (by omega)
  have hno : ∀ (u : Nat) (m : List Int), ls[u]? = some m → i ∉ m := by
    rcases h.tagD i with ⟨u, l, q, h1, h2, h3⟩ | ⟨h2, h3⟩
    · omega
    · exact h2
  have hg : ls.getD t.toNat [] = l := by rw [List.getD_eq_getElem?_getD, hl]; rfl
  have hf : frontR rows t = l.headD 0 := by unfold frontR; rw [if_pos hc, hr]
  unfold layS pushL
  rw [if_pos hlo, hf, hr, hg, if_pos rfl]
  have := h.front hl his hno
  rwa [Int.toNat_of_nonneg hc.1] at this
theorem LInv.pushB (h : LInv R rows ls) {t i : Int} (hlo : layOk R rows t i = true) : LInv (layS R rows t (backR rows t) i 0).1 (layS R rows t (backR rows t) i 0).2 (pushL ls t i false) := by
  obtain ⟨hc, his, htag⟩ := layOk_iff.1 hlo
  obtain ⟨l, hl, hr⟩ := h.at (t := t.toNat) (by omega)
  have hno : ∀ (u : Nat) (m : List Int), ls[u]? = some m → i ∉ m := by
    rcases h.tagD i with ⟨u, l, q, h1, h2, h3⟩ | ⟨h2, h3⟩
    · omega
    · exact h2
  have hg : ls.getD t.toNat [] = l := by rw [List.getD_eq_getElem?_getD, hl]; rfl
  have hf : backR rows t = l.getLastD 0 := by unfold backR; rw [if_pos hc, hr]
  unfold layS pushL
  rw [if_pos hlo, hf, hr, hg, if_neg (by simp)]
  have := h.back hl his hno
  rwa [Int.toNat_of_nonneg hc.1] at this
theorem LInv.take (h : LInv R rows ls) {i : Int} (ho : offOk R rows i = true) : ∃ (t : Nat) (l : List Int) (q : Nat), ls[t]? = some l ∧ l[q]? = some i ∧ (raAt R i).tag = (t : Int) + 1 ∧ LInv (offS R rows i).1 (offS R rows i).2 (ls.set t (l.eraseIdx q)) := by
  have hc := of_decide_eq_true ho
  rcases h.tagD i with ⟨t, l, q, h1, h2, h3⟩ | ⟨h2, h3⟩
  · refine ⟨t, l, q, h1, h2, h3, ?_⟩
    have ht : ((raAt R i).tag - 1).toNat = t := by omega
    have hlt := (List.getElem?_eq_some_iff.1 h1).1
    obtain ⟨l', hl', hr⟩ := h.at (t := t) (by rw [h.len]; exact hlt)
    rw [h1] at hl'
    cases hl'
    unfold offS
    rw [if_pos ho, ht, hr]
    exact h.off h1 h2
  · omega
/-- Whatever act: there are lists behind it. -/
theorem LInv.some_lay (h : LInv R rows ls) (t i : Int) : (∃ ls', ls'.length = ls.length ∧ LInv (layS R rows t 0 i (frontR rows t)).1 (layS R rows t 0 i (frontR rows t)).2 ls') ∧ (∃ ls', ls'.length = ls.length ∧ LInv (layS R rows t (backR rows t) i 0).1 (layS R rows t (backR rows t) i 0).2 ls') := by
  by_cases hlo : layOk R rows t i = true
  · exact ⟨⟨_, by simp [pushL], h.pushF hlo⟩, ⟨_, by simp [pushL], h.pushB hlo⟩⟩
  · have e : ∀ p n, layS R rows t p i n = (R, rows) := fun p n => if_neg hlo
    rw [e, e]
    exact ⟨⟨ls, rfl, h⟩, ⟨ls, rfl, h⟩⟩
theorem LInv.some_off (h : LInv R rows ls) (i : Int) : ∃ ls', ls'.length = ls.length ∧ LInv (offS R rows i).1 (offS R rows i).2 ls' := by
  by_cases ho : offOk R rows i = true
  · obtain ⟨t, l, q, _, _, _, h4⟩ := h.take ho
    exact ⟨_, by simp, h4⟩
  · have e : offS R rows i = (R, rows) := if_neg ho
    rw [e]
    exact ⟨ls, rfl, h⟩
theorem LInv.some_mv (h : LInv R rows ls) (t i : Int) : ∃ ls', ls'.length = ls.length ∧ LInv (mvS R rows t i).1 (mvS R rows t i).2 ls' := by
  unfold mvS
  split
  · split
    · obtain ⟨l1, e1, h1⟩ := h.some_off i
      obtain ⟨⟨l2, e2, h2⟩, _⟩ := h1.some_lay t i
      exact ⟨l2, e2.trans e1, h2⟩
    · exact ⟨ls, rfl, h⟩
  · exact ⟨ls, rfl, h⟩
end
theorem Same.mvS {R : RA} (ok : RaOk R) (rows : List Rw) (t i : Int) (ok2 : RaOk (Al.offS R rows i).1) : Same R (mvS R rows t i).1 := by
  unfold Al.mvS
  split
  · split
    · exact (Same.offS ok rows i).trans (Same.layS ok2 _ _ _ _ _)
    · exact Same.refl _
  · exact Same.refl _
end Go.Al
