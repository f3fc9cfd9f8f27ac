/- Operations told by rules of their own: copies, capacities, maps. Conditions: none. -/
import Derived.Test.YtkoimgeckkodhaaAl
import Derived.MapKept
import Derived.OpenShut
import Derived.ChangeSlices
import Derived.Laws.StructEq
set_option linter.unusedVariables false
set_option linter.unusedSimpArgs false
/- Operations told by rules of their own: a slice against nil, a copy, a clearing. -/
namespace Go.Al
section
variable {P : Program} {N : Nat} {a : Act} {w : World} {B0 : Nat → Nat → Prop} {base : Nat} {β : Nat → Nat} {st : AS}

theorem run_equalIn_slice (d : Nat) {t e : TypeId} (b : Option Addr) (l c : Nat) (hu : P.underlying t = some (.slice e)) (w : World) :
    (Op.equalIn (d + 1) t (.slice b l c) (.slice none 0 0)).run P w = .ok b.isNone w := by
  simp only [Op.equalIn, Sem.run_bind, run_underlying hu, Result.andThen_ok]
  cases b <;> rfl
theorem run_equal_slice {t e : TypeId} (b : Option Addr) (l c : Nat) (hu : P.underlying t = some (.slice e)) (w : World) :
    (Op.equal t (.slice b l c) (.slice none 0 0)).run P w = .ok b.isNone w := run_equalIn_slice 9999 b l c hu w

/-- A slice against nil: of a frozen row it is known where the row is not empty. -/
theorem AStepX.eql_nil {o : Oper} {t t' e z : Nat} {x : Operand} {es : List (List AV)} {K : AS → Prop} (ho : o.op = .binOp .eql t x (.const (.slice none 0 0)) t') (hx : st.ev x = .lst z es)
    (hs : slOf P t = some e) (hk : ∀ b : Bool, (b = true → es = []) → K (st.put o.dst (.sc (.bool b)))) : AStepX P o st K := by
  intro N a w B0 base β hi
  have hu := slOf_some hs
  have hr := hi.ev x
  rw [hx] at hr
  simp only [RepV] at hr
  have main : ∀ (b : Option Addr) (l c : Nat), a.eval x = .slice b l c → (execOp a.eval o).run P w = .ok (.value (.bool b.isNone)) w := by
    intro b l c hb
    have hy : a.eval (.const (.slice none 0 0)) = .slice none 0 0 := rfl
    have h1 := run_eqGuard_other (P := P) (op := .eql) (t := t) (x := x) (y := .const (.slice none 0 0)) (u := .slice b l c) (v := .slice none 0 0) trivial w
    have h2 := run_equal_slice (P := P) b l c hu w
    simp only [execOp, ho, hb, hy, Sem.run_bind, h1, Result.andThen_ok, binOp, h2, Sem.run_pure]
  rcases hr with ⟨⟨a0, h1⟩, h2⟩ | ⟨b, q, c, h1, h2, h3⟩
  · exact ⟨_, _, _, Done.quiet hi (main _ _ _ h1) (by simp only [RepV]; rfl), hk _ (fun _ => h2)⟩
  · exact ⟨_, _, _, Done.quiet hi (main _ _ _ h1) (by simp only [RepV]; rfl), hk false (fun h => by cases h)⟩
theorem AStepX.eql_live {o : Oper} {t t' e id z off m : Nat} {x : Operand} {K : AS → Prop} (ho : o.op = .binOp .eql t x (.const (.slice none 0 0)) t') (hx : st.ev x = .sl id z off m)
    (hs : slOf P t = some e) (hk : K (st.put o.dst (.sc (.bool false)))) : AStepX P o st K := by
  intro N a w B0 base β hi
  have hu := slOf_some hs
  have hr := hi.ev x
  rw [hx] at hr
  simp only [RepV] at hr
  obtain ⟨hid, c, q, h1, _⟩ := hr
  refine ⟨_, _, _, Done.quiet hi (u := .bool false) ?_ (by simp only [RepV]), hk⟩
  have hy : a.eval (.const (.slice none 0 0)) = .slice none 0 0 := rfl
  have h3 := run_eqGuard_other (P := P) (op := .eql) (t := t) (x := x) (y := .const (.slice none 0 0)) (u := .slice (some ⟨β id, q, none⟩) m c) (v := .slice none 0 0) trivial w
  have h2 := run_equal_slice (P := P) (some ⟨β id, q, none⟩) m c hu w
  simp only [execOp, ho, h1, hy, Sem.run_bind, h3, Result.andThen_ok, binOp, h2, Sem.run_pure]
  rfl
theorem AStepX.eql_nilnil {o : Oper} {t t' e : Nat} {x : Operand} {K : AS → Prop} (ho : o.op = .binOp .eql t x (.const (.slice none 0 0)) t') (hx : st.ev x = .sc (.slice none 0 0))
    (hs : slOf P t = some e) (hk : K (st.put o.dst (.sc (.bool true)))) : AStepX P o st K := by
  intro N a w B0 base β hi
  have hu := slOf_some hs
  have hr := hi.ev x
  rw [hx] at hr
  simp only [RepV] at hr
  refine ⟨_, _, _, Done.quiet hi (u := .bool true) ?_ (by simp only [RepV]), hk⟩
  have hy : a.eval (.const (.slice none 0 0)) = .slice none 0 0 := rfl
  have h3 := run_eqGuard_other (P := P) (op := .eql) (t := t) (x := x) (y := .const (.slice none 0 0)) (u := .slice none 0 0) (v := .slice none 0 0) trivial w
  have h2 := run_equal_slice (P := P) none 0 0 hu w
  simp only [execOp, ho, hr, hy, Sem.run_bind, h3, Result.andThen_ok, binOp, h2, Sem.run_pure]
  rfl

/-- A slice whose capacity is told is a slice. -/
theorem RepV.uncap {B : Nat → Nat → Prop} {n id z off m c : Nat} {v : Value} (h : RepV w B β n (.slc id z off m c) v) : RepV w B β n (.sl id z off m) v := by
  simp only [RepV] at h ⊢
  obtain ⟨h1, h2, h3, h4, h5⟩ := h
  exact ⟨h1, c, off * z, h2, h3, fun _ => rfl, h4, h5⟩
theorem RepV.cap {B : Nat → Nat → Prop} {n id z off m : Nat} {v : Value} (hm : m ≠ 0 ∨ off = 0) (h : RepV w B β n (.sl id z off m) v) : ∃ c, m ≤ c ∧ c ≤ maxLen ∧ RepV w B β n (.slc id z off m c) v := by
  simp only [RepV] at h
  obtain ⟨h1, c, o, h2, h3, h4, h5, h6⟩ := h
  have := h4 hm
  subst this
  exact ⟨c, h3, h5, by simp only [RepV]; exact ⟨h1, h2, h3, h5, h6⟩⟩
theorem HCalls.cap {f : FuncId} {id z off m : Nat} {args : List AV} {H : AH} {n : Nat} {R : AV → AH → Nat → Prop} (hf : fnOk P f = true) (hm : m ≠ 0 ∨ off = 0)
    (h : ∀ c, m ≤ c → c ≤ maxLen → HCalls P f (.slc id z off m c :: args) H n R) : HCalls P f (.sl id z off m :: args) H n R := by
  refine ⟨hf, fun w B0 base β cargs h1 h2 h3 h4 => ?_⟩
  simp only [RepL] at h4
  obtain ⟨u, us, rfl, hu, hus⟩ := h4
  obtain ⟨c, c1, c2, hc⟩ := hu.cap hm
  exact (h c c1 c2).2 w B0 base β _ h1 h2 h3 (by simp only [RepL]; exact ⟨u, us, rfl, hc, hus⟩)
end
end Go.Al

/- Elements written into a live row: a copy, a clearing. -/
namespace Go.Al
theorem flatten_drop {z : Nat} : ∀ (l : List (List AV)) (k : Nat), (∀ x ∈ l, x.length = z) → (l.drop k).flatten = l.flatten.drop (k * z) := by
  intro l k hl
  induction k generalizing l with
  | zero => simp
  | succ k ih =>
    cases l with
    | nil => simp
    | cons x l =>
      rw [List.drop_succ_cons, ih l (fun y hy => hl y (List.mem_cons_of_mem _ hy)), List.flatten_cons, Nat.succ_mul, show k * z + z = x.length + k * z by rw [hl x (by simp)]; omega, List.drop_length_add_append]
theorem flatten_take {z : Nat} : ∀ (l : List (List AV)) (k : Nat), (∀ x ∈ l, x.length = z) → (l.take k).flatten = l.flatten.take (k * z) := by
  intro l k hl
  induction k generalizing l with
  | zero => simp
  | succ k ih =>
    cases l with
    | nil => simp
    | cons x l =>
      rw [List.take_succ_cons, List.flatten_cons, ih l (fun y hy => hl y (List.mem_cons_of_mem _ hy)), List.flatten_cons, Nat.succ_mul, show k * z + z = x.length + k * z by rw [hl x (by simp)]; omega, List.take_length_add_append]
section
variable {P : Program} {N : Nat} {a : Act} {w : World} {B0 : Nat → Nat → Prop} {base : Nat} {β : Nat → Nat} {st : AS}

/-- Elements over those from the p-th on; the row may grow by it. -/
def over (es : List (List AV)) (p : Nat) (ys : List (List AV)) : List (List AV) := es.take p ++ ys ++ es.drop (p + ys.length)
theorem HRep.over {n : Nat} {H : AH} {id t z p : Nat} {es ys : List (List AV)} {cur : Array Value} {vs : List Value} (h : HRep w B0 base β n H) (h0 : ∀ b o, B0 b o → b < base)
    (hid : H id = some (.obj t z es false)) (hz0 : 0 < z) (hp : p ≤ es.length) (hw : w.heap[β id]? = some (.cells cur t (0, 0))) (hys : ∀ x ∈ ys, x.length = z) (hfit : (p + ys.length) * z ≤ cur.size)
    (hvs : RepC w (Bad B0 β H) β n ys.flatten vs) :
    HRep (w.setRow (β id) (cur.toList.take (p * z) ++ vs ++ cur.toList.drop (p * z + vs.length)).toArray) B0 base β n (upd H id (some (.obj t z (Al.over es p ys) false))) ∧
      Ext w B0 β n H (w.setRow (β id) (cur.toList.take (p * z) ++ vs ++ cur.toList.drop (p * z + vs.length)).toArray) β n (upd H id (some (.obj t z (Al.over es p ys) false))) := by
  obtain ⟨cur0, cap, h1, h2, h3, h4, h5, h6⟩ := h.obj id t z es false hid
  have : cur0 = cur := by
    have := h1.symm.trans hw
    simpa using this
  subst this
  have hvl : vs.length = ys.length * z := by
    have := hvs.len
    rw [flat_len hys] at this
    exact this
  rw [Nat.add_mul] at hfit
  have hpz : p * z ≤ es.length * z := Nat.mul_le_mul_right _ hp
  have hez : es.length * z ≤ cap * z := Nat.mul_le_mul_right _ h2
  have hcapp : p + ys.length ≤ cap := by
    have : (p + ys.length) * z ≤ cap * z := by rw [Nat.add_mul]; omega
    exact Nat.le_of_mul_le_mul_right this hz0
  have hol : (Al.over es p ys).length = p + ys.length + (es.length - (p + ys.length)) := by
    simp [Al.over]; omega
  have hall : ∀ x ∈ Al.over es p ys, x.length = z := by
    intro x hx
    simp only [Al.over, List.mem_append] at hx
    rcases hx with (hx | hx) | hx
    · exact h6 x (List.mem_of_mem_take hx)
    · exact hys x hx
    · exact h6 x (List.mem_of_mem_drop hx)
  refine h.store_to h0 hid ?_ hall ?_ ?_
  · intro cur2 cap2 g1 g2 g3
    have e : cur2 = cur0 := by
      have := g1.symm.trans hw
      simpa using this
    subst e
    have : cap2 = cap := Nat.eq_of_mul_eq_mul_right hz0 (g2.symm.trans h4)
    rw [hol]; omega
  · intro cur2 g1
    have e : cur2 = cur0 := by
      have := g1.symm.trans hw
      simpa using this
    subst e
    simp; omega
  · have hfl : (Al.over es p ys).flatten = es.flatten.take (p * z) ++ ys.flatten ++ es.flatten.drop (p * z + vs.length) := by
      simp only [Al.over, List.flatten_append]
      rw [flatten_take es p h6, flatten_drop es _ h6, hvl, Nat.add_mul]
    have hlz : (Al.over es p ys).length * z = p * z + vs.length + (es.length * z - (p * z + vs.length)) := by
      rw [hol, hvl, Nat.add_mul, Nat.sub_mul, Nat.add_mul]
    rw [hfl]
    have e1 : (cur0.toList.take (p * z) ++ vs ++ cur0.toList.drop (p * z + vs.length)).toArray.toList.take ((Al.over es p ys).length * z) =
        (cur0.toList.take (es.length * z)).take (p * z) ++ vs ++ (cur0.toList.take (es.length * z)).drop (p * z + vs.length) := by
      rw [hlz]
      generalize es.length * z = m at *
      generalize p * z = q at *
      apply List.ext_getElem?
      intro j
      simp only [List.getElem?_append, List.getElem?_take, List.getElem?_drop, List.length_append, List.length_take, List.length_drop, Array.length_toList]
      repeat' split
      all_goals first | rfl | omega | (congr 1; omega) | skip
      all_goals first | (rw [List.getElem?_eq_none (by simp; omega)]) | skip
    rw [e1]
    exact ((h5.take (p * z)).append hvs).append (h5.drop (p * z + vs.length))

/-- A row's first k elements, and how many it has. -/
def srcFirst (H : AH) (z k : Nat) : AV → Option (Nat × List (List AV))
  | .sc (.slice none 0 0) => some (0, [])
  | .lst z' es => if z' = z then some (es.length, es.take k) else none
  | .sl id z' off m => if z' = z then (match H id with
    | some (.obj _ z2 es _) => if z2 = z ∧ off + min m k ≤ es.length then some (m, (es.drop off).take (min m k)) else none
    | _ => none) else none
  | .slc id z' off m _ => if z' = z then (match H id with
    | some (.obj _ z2 es _) => if z2 = z ∧ off + min m k ≤ es.length then some (m, (es.drop off).take (min m k)) else none
    | _ => none) else none
  | _ => none
theorem src_obj (hi : Inv N a w B0 base β st) {id t z off m k : Nat} {es : List (List AV)} {s : Bool} {u : Value} (hH : st.H id = some (.obj t z es s)) (hc : off + min m k ≤ es.length)
    (hr : RepV w (Bad B0 β st.H) β st.n (.sl id z off m) u) : ∃ b c vs, u = .slice (some b) m c ∧ ((es.drop off).take (min m k)).length = min m k ∧ RepC w (Bad B0 β st.H) β st.n ((es.drop off).take (min m k)).flatten vs ∧
      (∀ x ∈ (es.drop off).take (min m k), x.length = z) ∧ (Builtin.firstCells z (min m k) u).run P w = .ok vs.toArray w := by
  simp only [RepV] at hr
  obtain ⟨hid, c, o, rfl, h1, h2, h3, h4⟩ := hr
  obtain ⟨cur, cap, g1, g2, g3, g4, g5, g6⟩ := hi.heap.obj id _ _ _ _ hH
  have hlen : ((es.drop off).take (min m k)).length = min m k := by simp; omega
  have hz6 : ∀ x ∈ (es.drop off).take (min m k), x.length = z := fun x hx => g6 x (List.mem_of_mem_drop (List.mem_of_mem_take hx))
  have hfl : ((es.drop off).take (min m k)).flatten = (es.flatten.drop (off * z)).take (min m k * z) := by
    rw [flatten_take _ _ (fun x hx => g6 x (List.mem_of_mem_drop hx)), flatten_drop _ _ g6]
  have hrep := (g5.drop (off * z)).take (min m k * z)
  rw [← hfl] at hrep
  refine ⟨_, c, _, rfl, hlen, hrep, hz6, ?_⟩
  refine run_firstCells_some _ _ _ _ _ _ _ ?_ ?_
  · have := hrep.len
    rw [flat_len hz6, hlen] at this
    exact this
  · intro j v hv
    have hlv := (List.getElem?_eq_some_iff.1 hv).1
    simp only [List.length_take, List.length_drop, Array.length_toList] at hlv
    have hm : m ≠ 0 := by rintro rfl; simp at hlv
    have ho := h2 (.inl hm)
    subst ho
    have hjm : j < min m k * z := by omega
    have hle : off * z + j < es.length * z := by
      have : (off + min m k) * z ≤ es.length * z := Nat.mul_le_mul_right _ hc
      rw [Nat.add_mul] at this
      omega
    rw [List.getElem?_take, if_pos hjm, List.getElem?_drop, List.getElem?_take, if_pos hle] at hv
    rw [Addr.add_lit]
    simp only [World.cell?, g1]
    simpa using hv
theorem src_rep (hi : Inv N a w B0 base β st) {z k L : Nat} {y : AV} {ys : List (List AV)} {u : Value} (h : srcFirst st.H z k y = some (L, ys)) (hr : RepV w (Bad B0 β st.H) β st.n y u) :
    ∃ b c vs, u = .slice b L c ∧ ys.length = min L k ∧ RepC w (Bad B0 β st.H) β st.n ys.flatten vs ∧ (∀ x ∈ ys, x.length = z) ∧ (Builtin.firstCells z (min L k) u).run P w = .ok vs.toArray w := by
  unfold srcFirst at h
  split at h
  · cases h
    simp only [RepV] at hr
    subst hr
    exact ⟨none, 0, [], rfl, by simp, by simp [RepC], by simp, by rw [run_firstCells_none]⟩
  · rename_i z' es
    split at h
    · rename_i hz
      subst hz
      cases h
      simp only [RepV] at hr
      rcases hr with ⟨⟨a0, rfl⟩, rfl⟩ | ⟨b, o, c, rfl, h1, h2⟩
      · cases a0 with
        | none => exact ⟨none, 0, [], rfl, by simp, by simp [RepC], by simp, by rw [run_firstCells_none]⟩
        | some a0 => exact ⟨some a0, 0, [], rfl, by simp, by simp [RepC], by simp, by simpa using run_firstCells_some (P := P) w z' 0 a0 0 0 [] (by simp) (by simp)⟩
      · obtain ⟨k1, k2⟩ := h2.flat
        obtain ⟨vs, k3, k4⟩ := k2.cells
        have hall : ∀ x ∈ es, x.length = z' := by
          intro x hx
          obtain ⟨i, hi', rfl⟩ := List.mem_iff_getElem.1 hx
          exact (h2.get i _ (List.getElem?_eq_getElem hi')).1
        have htk : ∀ x ∈ es.take k, x.length = z' := fun x hx => hall x (List.mem_of_mem_take hx)
        have hrep := k3.take (k * z')
        rw [← flatten_take es k hall] at hrep
        refine ⟨_, c, _, rfl, by simp; omega, hrep, htk, run_firstCells_some _ _ _ _ _ _ _ ?_ ?_⟩
        · have := hrep.len
          rw [flat_len htk, List.length_take (l := es), Nat.min_comm k] at this
          exact this
        · intro j v hv
          rw [Addr.add_lit]
          exact k4 j v (by
            rw [List.getElem?_take] at hv
            split at hv
            · exact hv
            · cases hv)
    · cases h
  · rename_i id z' off m
    split at h
    · rename_i hz
      subst hz
      split at h
      · rename_i t z2 es s hH
        split at h
        · rename_i hc
          obtain ⟨rfl, hc⟩ := hc
          cases h
          obtain ⟨b, c, vs, h1, h2, h3, h4, h5⟩ := src_obj (P := P) hi hH hc hr
          exact ⟨_, c, vs, h1, h2, h3, h4, h5⟩
        · cases h
      · cases h
    · cases h
  · rename_i id z' off m cc
    split at h
    · rename_i hz
      subst hz
      split at h
      · rename_i t z2 es s hH
        split at h
        · rename_i hc
          obtain ⟨rfl, hc⟩ := hc
          cases h
          obtain ⟨b, c, vs, h1, h2, h3, h4, h5⟩ := src_obj (P := P) hi hH hc hr.uncap
          exact ⟨_, c, vs, h1, h2, h3, h4, h5⟩
        · cases h
      · cases h
    · cases h
  · cases h
theorem upd_self {α : Type} (f : Nat → α) (i : Nat) : upd f i (f i) = f := by
  funext j
  by_cases e : j = i
  · subst e; rw [upd_same]
  · rw [upd_ne _ _ e]
theorem AStepX.copy {o : Oper} {c : Call} {x y : Operand} {t t' e id te z off m L : Nat} {T : Ty} {es ys : List (List AV)} {K : AS → Prop} (ho : o.op = .call c) (hc : c.callee = .builtin .copy) (ha : c.args = #[x, y]) (ht : c.argTypes = #[t, t'])
    (hs : slOf P t = some e) (hT : tyOf P e = some T) (hz : T.size = z) (hz0 : 0 < z) (hx : st.ev x = .sl id z off m ∨ ∃ c, st.ev x = .slc id z off m c) (hH : st.H id = some (.obj te z es false)) (hoff : off ≤ es.length)
    (hy : srcFirst st.H z m (st.ev y) = some (L, ys))
    (hk : K ((AS.mk st.t (upd st.H id (some (.obj te z (Al.over es off ys) false))) st.n).put o.dst (.sc (.int .i64 (min L m : Nat))))) : AStepX P o st K := by
  intro N a w B0 base β hi
  have hu := slOf_some hs
  obtain ⟨i, d, g1, g2, g3, g4, g5, g6⟩ := tyOf_some hT
  have hxr : RepV w (Bad B0 β st.H) β st.n (.sl id z off m) (a.eval x) := by
    have := hi.ev x
    rcases hx with hx | ⟨c, hx⟩
    · rw [hx] at this; exact this
    · rw [hx] at this; exact this.uncap
  obtain ⟨b, c2, vs, e1, e2, e3, e4, e5⟩ := src_rep (P := P) hi hy (hi.ev y)
  simp only [RepV] at hxr
  obtain ⟨hid, cc, q, k1, k2, k3, k4, k5⟩ := hxr
  obtain ⟨cur, cap, f1, f2, f3, f4, f5, f6⟩ := hi.heap.obj id _ _ _ _ hH
  have hvl : vs.length = ys.length * z := by
    have := e3.len
    rw [flat_len e4] at this
    exact this
  rw [e1] at e5
  have hfirst : (Builtin.firstCells i.size (Nat.min L m) (.slice b L c2)).run P w = .ok vs.toArray w := by rw [g3, hz]; exact e5
  have hexec : ∀ w', (storeCells ⟨β id, q, none⟩ vs).run P w = .ok () w' → (execOp a.eval o).run P w = .ok (.value (.int .i64 (min L m : Nat))) w' := by
    intro w' hst
    simp only [execOp, ho, resolve, hc, invoke, builtin, ha, ht, Sem.run_bind, Sem.run_pure, Result.andThen_ok, List.map_toArray, List.map_cons, List.map_nil, k1, e1]
    simp [Builtin.copy_, run_underlying hu, sizeOf, typeInfo, g1, Builtin.lenOf, hfirst, hst, goInt]
  by_cases hy0 : ys.length = 0
  · have hys : ys = [] := List.eq_nil_of_length_eq_zero hy0
    subst hys
    have hvs : vs = [] := List.eq_nil_of_length_eq_zero (by simpa using hvl)
    subst hvs
    have hself : upd st.H id (some (.obj te z (Al.over es off []) false)) = st.H := by
      have e : Al.over es off [] = es := by simp [Al.over]
      rw [e, ← hH, upd_self]
    refine ⟨_, _, _, ?_, hk⟩
    rw [hself]
    exact Done.quiet hi (hexec w (by simp [storeCells])) (by simp only [RepV])
  · have hm : m ≠ 0 := by rintro rfl; rw [e2] at hy0; simp at hy0
    have hq := k3 (.inl hm)
    subst hq
    have hmz : ys.length * z ≤ cc * z := Nat.mul_le_mul_right _ (by rw [e2]; omega)
    have hpos : 0 < ys.length * z := Nat.mul_pos (by omega) hz0
    have hfit : (off + ys.length) * z ≤ cur.size := by
      have := k5 (ys.length * z - 1) (by omega)
      simp only [World.cell?, f1] at this
      simp at this
      rw [Nat.add_mul]
      omega
    have hst := run_storeCells_at P (β id) (off * z) te vs 0 cur w f1 (by rw [hvl, Nat.add_zero, ← Nat.add_mul]; exact hfit) e3.one
    simp only [Nat.add_zero] at hst
    obtain ⟨m1, m2⟩ := hi.heap.over (vs := vs) hi.b0 hH hz0 hoff f1 e4 hfit e3
    exact ⟨_, _, _, ⟨_, _, _, .inl (hexec _ hst), m1, m2, by simp only [RepV]⟩, hk⟩
end
end Go.Al

/- Operations on slices whose capacity is told; a clearing; an append of many zeros; whether two rows overlap. -/
namespace Go.Al
section
variable {P : Program} {N : Nat} {a : Act} {w : World} {B0 : Nat → Nat → Prop} {base : Nat} {β : Nat → Nat} {st : AS}

theorem live_rep (hi : Inv N a w B0 base β st) {x : Operand} {id z off m : Nat} (hx : st.ev x = .sl id z off m ∨ ∃ c, st.ev x = .slc id z off m c) : RepV w (Bad B0 β st.H) β st.n (.sl id z off m) (a.eval x) := by
  have := hi.ev x
  rcases hx with hx | ⟨c, hx⟩
  · rw [hx] at this; exact this
  · rw [hx] at this; exact this.uncap

theorem AStepX.clear {o : Oper} {c : Call} {x : Operand} {t e id te z off m : Nat} {T : Ty} {zs : List Value} {es : List (List AV)} {K : AS → Prop} (ho : o.op = .call c) (hc : c.callee = .builtin .clear) (ha : c.args = #[x]) (ht : c.argTypes = #[t])
    (hs : slOf P t = some e) (hT : tyOf P e = some T) (hz : T.size = z) (hz0 : 0 < z) (hzs : T.zero = some zs) (hzl : zs.length = z) (hone : zs.all (·.oneCell') = true)
    (hx : st.ev x = .sl id z off m ∨ ∃ c, st.ev x = .slc id z off m c) (hH : st.H id = some (.obj te z es false)) (hoff : off ≤ es.length)
    (hk : K ((AS.mk st.t (upd st.H id (some (.obj te z (Al.over es off (List.replicate m (zs.map AV.sc))) false))) st.n).put o.dst (.tup []))) : AStepX P o st K := by
  intro N a w B0 base β hi
  have hu := slOf_some hs
  have hxr := live_rep hi hx
  obtain ⟨zv, hz1, hz2⟩ := run_zero_ hT hzs w
  have hzv : zv.cells.size = z := by rw [← Array.length_toList, hz2, hzl]
  have hzc : (Builtin.zeroCells zv.cells m).toList = (List.replicate m zs).flatten := by
    have := zero_cells zv.cells z hzv hz0 m
    rw [hz2] at this
    rw [← hzv] at this
    exact this
  have hrep : RepC w (Bad B0 β st.H) β st.n (List.replicate m (zs.map AV.sc)).flatten (Builtin.zeroCells zv.cells m).toList := by
    rw [hzc]; exact RepC_replicate (RepC_sc hone) _
  have hys : ∀ y ∈ List.replicate m (zs.map AV.sc), y.length = z := fun y hy => by rw [List.eq_of_mem_replicate hy]; simp [hzl]
  simp only [RepV] at hxr
  obtain ⟨hid, cc, q, k1, k2, k3, k4, k5⟩ := hxr
  obtain ⟨cur, cap, f1, f2, f3, f4, f5, f6⟩ := hi.heap.obj id _ _ _ _ hH
  have hvl : (Builtin.zeroCells zv.cells m).toList.length = m * z := by rw [Array.length_toList, size_zeroCells, hzv]
  by_cases hm : m = 0
  · subst hm
    have hself : upd st.H id (some (.obj te z (Al.over es off []) false)) = st.H := by
      have e : Al.over es off [] = es := by simp [Al.over]
      rw [e, ← hH, upd_self]
    refine ⟨_, _, _, ?_, hk⟩
    rw [List.replicate_zero, hself]
    refine Done.quiet hi (u := .tuple #[]) ?_ (by simp only [RepV]; exact ⟨[], rfl, by simp only [RepL]⟩)
    simp only [execOp, ho, resolve, hc, invoke, builtin, ha, ht, Sem.run_bind, Sem.run_pure, Result.andThen_ok, List.map_toArray, List.map_cons, List.map_nil, k1]
    simp [Builtin.clear_, run_underlying hu]
  · have hq := k3 (.inl hm)
    subst hq
    have hmz : m * z ≤ cc * z := Nat.mul_le_mul_right _ k2
    have hpos : 0 < m * z := Nat.mul_pos (by omega) hz0
    have hfit : (off + (List.replicate m (zs.map AV.sc)).length) * z ≤ cur.size := by
      have := k5 (m * z - 1) (by omega)
      simp only [World.cell?, f1] at this
      simp at this
      rw [List.length_replicate, Nat.add_mul]
      omega
    have hst := run_storeCells_at P (β id) (off * z) te (Builtin.zeroCells zv.cells m).toList 0 cur w f1 (by rw [hvl, Nat.add_zero, ← Nat.add_mul]; simpa using hfit) hrep.one
    simp only [Nat.add_zero] at hst
    obtain ⟨m1, m2⟩ := hi.heap.over hi.b0 hH hz0 hoff f1 hys hfit hrep
    refine ⟨_, _, _, ⟨_, _, .tuple #[], .inl ?_, m1, m2, by simp only [RepV]; exact ⟨[], rfl, by simp only [RepL]⟩⟩, hk⟩
    simp only [execOp, ho, resolve, hc, invoke, builtin, ha, ht, Sem.run_bind, Sem.run_pure, Result.andThen_ok, List.map_toArray, List.map_cons, List.map_nil, k1]
    obtain ⟨m', rfl⟩ : ∃ m', m = m' + 1 := ⟨m - 1, by omega⟩
    simp [Builtin.clear_, run_underlying hu, hz1, hst]

theorem AStepX.cap {o : Oper} {c : Call} {x : Operand} {t e id z off m k : Nat} {K : AS → Prop} (ho : o.op = .call c) (hc : c.callee = .builtin .cap) (ha : c.args = #[x]) (ht : c.argTypes = #[t])
    (hs : slOf P t = some e) (hx : st.ev x = .slc id z off m k) (hk : K (st.put o.dst (.sc (.int .i64 k)))) : AStepX P o st K := by
  intro N a w B0 base β hi
  have hu := slOf_some hs
  have hr := hi.ev x
  rw [hx] at hr
  simp only [RepV] at hr
  refine ⟨_, _, _, Done.quiet hi (u := .int .i64 k) ?_ (by simp only [RepV]), hk⟩
  simp only [execOp, ho, resolve, hc, invoke, builtin, ha, ht, Sem.run_bind, Sem.run_pure, Result.andThen_ok, List.map_toArray, List.map_cons, List.map_nil, hr.2.1]
  simp [Builtin.cap_, run_underlying hu, goInt]
theorem AStepX.len {o : Oper} {c : Call} {x : Operand} {t e id z off m k : Nat} {K : AS → Prop} (ho : o.op = .call c) (hc : c.callee = .builtin .len) (ha : c.args = #[x]) (ht : c.argTypes = #[t])
    (hs : slOf P t = some e) (hx : st.ev x = .slc id z off m k) (hk : K (st.put o.dst (.sc (.int .i64 m)))) : AStepX P o st K := by
  intro N a w B0 base β hi
  have hu := slOf_some hs
  have hr := hi.ev x
  rw [hx] at hr
  simp only [RepV] at hr
  refine ⟨_, _, _, Done.quiet hi (u := .int .i64 m) ?_ (by simp only [RepV]), hk⟩
  simp only [execOp, ho, resolve, hc, invoke, builtin, ha, ht, Sem.run_bind, Sem.run_pure, Result.andThen_ok, List.map_toArray, List.map_cons, List.map_nil, hr.2.1]
  simp [Builtin.len_, run_underlying hu, goInt]

/-- A part of a slice, up to its capacity. -/
theorem AStepX.slice {o : Oper} {x : Operand} {lo hh : Option Operand} {t e id z off m k : Nat} {l q : Int} {T : Ty} {K : AS → Prop} (ho : o.op = .slice t x lo hh none)
    (hs : slOf P t = some e) (hT : tyOf P e = some T) (hz : T.size = z) (hx : st.ev x = .slc id z off m k) (hl : st.bound lo 0 = some l) (hq : st.bound hh m = some q) (h0 : 0 ≤ l) (h1 : l ≤ q) (h2 : q ≤ k) (h3 : l < k)
    (hk : K (st.put o.dst (.slc id z (off + l.toNat) (q.toNat - l.toNat) (k - l.toNat)))) : AStepX P o st K := by
  intro N a w B0 base β hi
  have hu := slOf_some hs
  have hr := hi.ev x
  rw [hx] at hr
  simp only [RepV] at hr
  obtain ⟨r1, r2, r3, r4, r5⟩ := hr
  have hsb := run_bounds_cap (P := P) hi hl hq h0 h1 h2
  have hne : ¬ k = l.toNat := by omega
  have hsl : (Instr.slice t (.slice (some ⟨β id, off * z, none⟩) m k) (lo.map a.eval) (hh.map a.eval) none).run P w = .ok (.slice (some ⟨β id, (off + l.toNat) * z, none⟩) (q.toNat - l.toNat) (k - l.toNat)) w := by
    simp only [Instr.slice, Sem.run_bind, run_underlying hu, Result.andThen_ok, hsb, run_sizeOf_ hT, Sem.run_pure]
    rw [if_neg hne, hz]
    simp [Addr.add_lit, Nat.add_mul]
  refine ⟨_, _, _, Done.quiet hi (u := .slice (some ⟨β id, (off + l.toNat) * z, none⟩) (q.toNat - l.toNat) (k - l.toNat)) ?_ ?_, hk⟩
  · simp only [execOp, ho, Instr.sliceAt, Option.map_none, Sem.run_bind, run_underlying hu, Result.andThen_ok, r2, hsl, Sem.run_pure]
  · simp only [RepV]
    refine ⟨r1, trivial, by omega, by omega, fun j hj => ?_⟩
    have : (k - l.toNat) * z + l.toNat * z = k * z := by rw [← Nat.add_mul]; congr 1; omega
    have := r5 (l.toNat * z + j) (by omega)
    rw [← Nat.add_assoc, ← Nat.add_mul] at this
    exact this
end
end Go.Al

/- An append of many zeros; whether two rows overlap. -/
namespace Go.Al
section
variable {P : Program} {N : Nat} {a : Act} {w : World} {B0 : Nat → Nat → Prop} {base : Nat} {β : Nat → Nat} {st : AS}

theorem run_append_zeros (t u ty e : TypeId) (i : TypeInfo) (zv : Value) (ht : P.underlying t = some (.slice e)) (hu : P.underlying u = some (.int .i64)) (hi : P.info? e = some i) (hz : i.zero = some zv)
    (b : Addr) (k : Nat) (l : Nat) (h0 : k < l) (hp : 0 < i.size) (hb1 : (l : Int) ≤ 1099511627776) (hb2 : l * i.bytes ≤ 140737488355328) :
    (Builtin.append_ #[t, u] ty #[.slice (some b) 0 k, .int .i64 l]).run P w =
      .ok (.slice (some ⟨w.heap.size, 0, none⟩) l (grownCap w l k e)) (w.drew.alloc (.cells (Builtin.zeroCells zv.cells l ++ Builtin.zeroCells zv.cells (grownCap w l k e - l)) e)) := by
  have hw := wrap_in (n := (l : Int)) (by omega) hb1
  have hn : ¬ l ≤ k := by omega
  have h1 : ¬ ((l : Int) < 0) := by omega
  have h2 : ¬ (281474976710656 < (l : Int) * i.bytes) := by
    have : ((l * i.bytes : Nat) : Int) = (l : Int) * i.bytes := Int.natCast_mul _ _
    omega
  have h3 : ¬ (9223372036854775807 < (l : Int)) := by omega
  have h4 := growslice_fits (need := l) (old := k) (bytes := i.bytes) h0 hb2
  have h4' : ¬ (281474976710656 < Builtin.nextslicecap l k * i.bytes) := by omega
  have h5 : l ≠ 0 := by omega
  have h6 : i.size ≠ 0 := by omega
  have hf : (Builtin.firstCells i.size 0 (.slice (some b) 0 k)).run P w.drew = .ok #[] w.drew :=
    run_firstCells_some (P := P) w.drew i.size 0 b 0 k [] (by simp) (by simp)
  simp [Builtin.append_, run_underlying ht, run_underlying hu, sizeOf, typeInfo, zeroValue, hi, hz, asInt, asIntOf, hw, hn, h1, h2, h3, h4', h5, h6, Question.forced, hf, newRow, grownCap]
  intro h
  exact absurd h (Nat.mul_ne_zero h5 h6)
theorem AStepX.append_zeros {o : Oper} {c : Call} {x y : Operand} {t u e id z off k l : Nat} {T : Ty} {zs : List Value} {K : AS → Prop} (ho : o.op = .call c) (hc : c.callee = .builtin .append) (ha : c.args = #[x, y]) (ht : c.argTypes = #[t, u])
    (hs : slOf P t = some e) (hu : inOf P u = some .i64) (hT : tyOf P e = some T) (hz : T.size = z) (hz0 : 0 < z) (hzs : T.zero = some zs) (hzl : zs.length = z) (hone : zs.all (·.oneCell') = true)
    (hx : st.ev x = .slc id z off 0 k) (hy : st.ev y = .sc (.int .i64 (l : Int))) (h0 : k < l) (hb1 : (l : Int) ≤ 1099511627776) (hb2 : l * T.bytes ≤ 140737488355328)
    (hk : K ((AS.mk st.t (upd st.H st.n (some (.obj e z (List.replicate l (zs.map AV.sc)) false))) (st.n + 1)).put o.dst (.sl st.n z 0 l))) : AStepX P o st K := by
  intro N a w B0 base β hi
  have hut := slOf_some hs
  have huu : P.underlying u = some (.int .i64) := by
    unfold inOf at hu
    split at hu
    · rename_i h; cases hu; exact h
    · cases hu
  obtain ⟨i, d, g1, g2, g3, g4, g5, g6⟩ := tyOf_some hT
  have hr := hi.ev x
  rw [hx] at hr
  simp only [RepV] at hr
  have hr2 := hi.ev y
  rw [hy] at hr2
  simp only [RepV] at hr2
  rw [hzs] at g6
  cases hiz : i.zero with
  | none => simp [hiz] at g6
  | some zv =>
    have hzz : zv.cells.toList = zs := by simpa [hiz] using g6
    have hzv : zv.cells.size = z := by rw [← Array.length_toList, hzz, hzl]
    have hzc : (Builtin.zeroCells zv.cells l).toList = (List.replicate l zs).flatten := by
      have := zero_cells zv.cells z hzv hz0 l
      rw [hzz] at this
      rw [← hzv] at this
      exact this
    have hrep : RepC w (Bad B0 β st.H) β st.n (List.replicate l (zs.map AV.sc)).flatten (Builtin.zeroCells zv.cells l).toList := by
      rw [hzc]; exact RepC_replicate (RepC_sc hone) _
    have hys : ∀ y ∈ List.replicate l (zs.map AV.sc), y.length = z := fun y hy => by rw [List.eq_of_mem_replicate hy]; simp [hzl]
    have hrun := run_append_zeros (P := P) (w := w) t u o.type e i zv hut huu g1 hiz ⟨β id, off * z, none⟩ k l h0 (by omega) hb1 (by rw [g4]; exact hb2)
    have hge := grownCap_ge w l k e
    have hle := grownCap_le_maxLen w l k e (by simp only [maxLen]; omega)
    generalize grownCap w l k e = gcap at hrun hge hle
    have hsz : (Builtin.zeroCells zv.cells l ++ Builtin.zeroCells zv.cells (gcap - l)).size = gcap * z := by
      rw [Array.size_append, size_zeroCells, size_zeroCells, hzv, ← Nat.add_mul]; congr 1; omega
    have htk : (Builtin.zeroCells zv.cells l ++ Builtin.zeroCells zv.cells (gcap - l)).toList.take ((List.replicate l (zs.map AV.sc)).length * z) = (Builtin.zeroCells zv.cells l).toList := by
      rw [Array.toList_append, List.length_replicate]
      have : l * z = (Builtin.zeroCells zv.cells l).toList.length := by rw [Array.length_toList, size_zeroCells, hzv]
      rw [this]
      exact List.take_left
    obtain ⟨m1, m2⟩ := hi.heap.alloc_cap (w' := w.drew.alloc (.cells (Builtin.zeroCells zv.cells l ++ Builtin.zeroCells zv.cells (gcap - l)) e)) (s := false) (es := List.replicate l (zs.map AV.sc)) hi.b0 hi.base rfl rfl rfl rfl
      (by rw [htk]; exact hrep) hys (by rw [List.length_replicate]; exact hge) hle hsz
    refine ⟨_, _, _, ⟨_, _, _, .inl ?_, m1, m2, sl_new (w := w) (w' := w.drew.alloc (.cells (Builtin.zeroCells zv.cells l ++ Builtin.zeroCells zv.cells (gcap - l)) e)) rfl hsz hge hle⟩, hk⟩
    simp only [execOp, ho, resolve, hc, invoke, builtin, ha, ht, Sem.run_bind, Sem.run_pure, Result.andThen_ok, List.map_toArray, List.map_cons, List.map_nil, hr.2.1, hr2, hrun]

theorem run_overlaps {ps rs : Array TypeId} {t e t1 t2 b1 o1 b2 o2 l1 c1 l2 c2 : Nat} {T : Ty} {k1 k2 : Array Value} (hp : ps[0]? = some t) (hu : P.underlying t = some (.slice e)) (hT : tyOf P e = some T)
    (hb : b1 ≠ b2) (h1 : w.heap[b1]? = some (.cells k1 t1 (0, 0))) (h2 : w.heap[b2]? = some (.cells k2 t2 (0, 0))) (hs1 : k1.size ≠ 0) (hs2 : k2.size ≠ 0) :
    (Extern.SlicesOverlaps.overlaps ps rs #[.slice (some ⟨b1, o1, none⟩) l1 c1, .slice (some ⟨b2, o2, none⟩) l2 c2]).run P w = .ok (.bool false) w := by
  have hsz := run_sizeOf_ hT w
  have hf1 : ∀ o, w.frozen? ⟨b1, o, none⟩ = false := fun o => by simp [World.frozen?, h1]
  have hf2 : ∀ o, w.frozen? ⟨b2, o, none⟩ = false := fun o => by simp [World.frozen?, h2]
  have hv1 : w.shape? b1 = some (t1, k1.size) := by simp [World.shape?, h1]
  have hv2 : w.shape? b2 = some (t2, k2.size) := by simp [World.shape?, h2]
  conv => lhs; arg 2; whnf
  simp only [hp]
  by_cases h : l1 = 0 ∨ l2 = 0 ∨ T.size = 0
  · simp [run_underlying hu, hsz, h]
  · simp [run_underlying hu, hsz, h, hb, hf1, hf2, noView, viewAt, mayBeOne, stringish, hv1, hv2]

theorem AStepX.overlaps {o : Oper} {c : Call} {x y : Operand} {g : FuncId} {fn : Func} {ps rs : Array TypeId} {t e i1 i2 z t1 t2 f1 f2 m1 m2 : Nat} {e1 e2 : List (List AV)} {s1 s2 : Bool} {T : Ty} {K : AS → Prop}
    (ho : o.op = .call c) (hc : c.callee = .value (.func g)) (ha : c.args = #[x, y]) (hP : P.funcs[g]? = some fn) (hb : fn.body.isNone = true) (hname : (fn.name == "runtime.NumGoroutine") = false)
    (hn : Extern.findNext fn = none) (he : Extern.find fn = some (Extern.SlicesOverlaps.overlaps ps rs)) (hp : ps[0]? = some t) (hs : slOf P t = some e) (hT : tyOf P e = some T) (hz0 : 0 < z)
    (hx : st.ev x = .sl i1 z f1 m1 ∨ ∃ c, st.ev x = .slc i1 z f1 m1 c) (hy : st.ev y = .sl i2 z f2 m2 ∨ ∃ c, st.ev y = .slc i2 z f2 m2 c) (hne : i1 ≠ i2)
    (hH1 : st.H i1 = some (.obj t1 z e1 s1)) (hH2 : st.H i2 = some (.obj t2 z e2 s2)) (h1 : e1 ≠ []) (h2 : e2 ≠ [])
    (hk : K (st.put o.dst (.sc (.bool false)))) : AStepX P o st K := by
  intro N a w B0 base β hi
  have hu := slOf_some hs
  have r1 := live_rep hi hx
  have r2 := live_rep hi hy
  simp only [RepV] at r1 r2
  obtain ⟨_, c1, o1, k1, _⟩ := r1
  obtain ⟨_, c2, o2, k2, _⟩ := r2
  obtain ⟨u1, p1, a1, a2, a3, a4, a5, a6⟩ := hi.heap.obj i1 _ _ _ _ hH1
  obtain ⟨u2, p2, b1, b2, b3, b4, b5, b6⟩ := hi.heap.obj i2 _ _ _ _ hH2
  have hd : β i1 ≠ β i2 := fun e => hne (hi.heap.inj i1 i2 _ _ hH1 hH2 e)
  have q1 : u1.size ≠ 0 := by
    have : 0 < e1.length := List.length_pos_iff.2 h1
    rw [a4]
    exact Nat.mul_ne_zero (by omega) (by omega)
  have q2 : u2.size ≠ 0 := by
    have : 0 < e2.length := List.length_pos_iff.2 h2
    rw [b4]
    exact Nat.mul_ne_zero (by omega) (by omega)
  have hrun := run_overlaps (P := P) (w := w) (ps := ps) (rs := rs) (o1 := o1) (l1 := m1) (c1 := c1) (o2 := o2) (l2 := m2) (c2 := c2) hp hu hT hd a1 b1 q1 q2
  refine ⟨_, _, _, Done.quiet hi (u := .bool false) ?_ (by simp only [RepV]), hk⟩
  have hb' : fn.body = none := by simpa using hb
  have hname' : ¬ fn.name = "runtime.NumGoroutine" := by simpa using hname
  have hv : a.eval (.func g) = .func (.func g) #[] #[] := rfl
  simp only [execOp, ho, resolve, hc, hv, Deferred.ofValue, Sem.run_bind, Sem.run_pure, Result.andThen_ok, invoke, callFunc, ha, List.map_toArray, List.map_cons, List.map_nil, k1, k2]
  simp [program, mark, Sem.run, hP, hname', hb', hn, he, hrun]
end
/-- A row of numbers, as elements. -/
def U (l : List Int) : List (List AV) := l.map fun x => [.sc (.int .u64 x)]
theorem U_len (l : List Int) : (U l).length = l.length := by simp [U]
theorem U_get {l : List Int} {p : Nat} {x : Int} (h : l[p]? = some x) : (U l)[p]? = some [.sc (.int .u64 x)] := by simp [U, h]
theorem noIdsE_U (l : List Int) : noIdsE (U l) = true := noIdsE_map _ (fun x => by simp [noIdsL, noIds]) l
end Go.Al

/- Less told of an open object. -/
namespace Go.Al
theorem HRep.shrink {w : World} {B0 : Nat → Nat → Prop} {base : Nat} {β : Nat → Nat} {n : Nat} {H : AH} {id t z : Nat} {es : List (List AV)} (h : HRep w B0 base β n H) (h0 : ∀ b o, B0 b o → b < base)
    (hid : H id = some (.obj t z es false)) (k : Nat) : HRep w B0 base β n (upd H id (some (.obj t z (es.take k) false))) ∧ Ext w B0 β n H w β n (upd H id (some (.obj t z (es.take k) false))) := by
  obtain ⟨cur, cap, h1, h2, h3, h4, h5, h6⟩ := h.obj id t z es false hid
  have := h.store_to (cur' := cur) (es' := es.take k) h0 hid (fun _ c _ _ hc => by rw [List.length_take]; omega) (fun x hx => h6 x (List.mem_of_mem_take hx))
    (fun cur2 g => by
      have := g.symm.trans h1
      have : cur2 = cur := by simpa using this
      rw [this])
    (by
      rw [flatten_take es k h6]
      have e : cur.toList.take ((es.take k).length * z) = (cur.toList.take (es.length * z)).take (k * z) := by
        rw [List.take_take, List.length_take]
        congr 1
        rcases Nat.le_total k es.length with hk | hk
        · have := Nat.mul_le_mul_right z hk
          rw [Nat.min_eq_left hk, Nat.min_eq_left this]
        · have := Nat.mul_le_mul_right z hk
          rw [Nat.min_eq_right hk, Nat.min_eq_right this]
      rw [e]
      exact h5.take (k * z))
  rw [setRow_self w (β id) cur t (0, 0) h1] at this
  exact this
theorem HCalls.shrink {P : Program} {f : FuncId} {args : List AV} {H : AH} {n : Nat} {R R' : AV → AH → Nat → Prop} (h : HCalls P f args H n R)
    (hr : ∀ r H' n', R r H' n' → R' r H' n' ∨ ∃ id t z es k, H' id = some (.obj t z es false) ∧ R' r (upd H' id (some (.obj t z (es.take k) false))) n') : HCalls P f args H n R' :=
  ⟨h.1, fun w B0 base β cargs h1 h2 h3 h4 => (h.2 w B0 base β cargs h1 h2 h3 h4).mono fun _ w' ⟨β', n', H', r, v, k1, k2, k3, k4, k5⟩ => by
    rcases hr _ _ _ k5 with h5 | ⟨id, t, z, es, k, h5, h6⟩
    · exact ⟨β', n', H', r, v, k1, k2, k3, k4, h5⟩
    · obtain ⟨s1, s2⟩ := k3.shrink h1 h5 k
      exact ⟨β', n', _, r, v, k1, k2.trans s2, s1, k4.mono s2.pres s2.agree s2.le, h6⟩⟩
/-- A slice's capacity forgotten ahead of a region that draws. -/
theorem ADraw.uncap {P : Program} {N r i id z off m c : Nat} {ops : Array Oper} {Q : Exit → AS → Prop} {st : AS} (h : st.t i = .slc id z off m c)
    (hd : ADraw P N r ops Q (AS.mk (upd st.t i (.sl id z off m)) st.H st.n)) : ADraw P N r ops Q st := fun a w B0 base β hi =>
  hd a w B0 base β ⟨hi.size, hi.defers, fun j => by
    by_cases e : j = i
    · subst e
      have := hi.tmps j
      rw [h] at this
      show RepV _ _ _ _ (upd st.t j _ j) _
      rw [upd_same]
      exact this.uncap
    · show RepV _ _ _ _ (upd st.t i _ j) _
      rw [upd_ne _ _ e]
      exact hi.tmps j, hi.heap, hi.b0, hi.base⟩
/-- A result nil is an empty row. -/
theorem HCalls.nil {P : Program} {f : FuncId} {args : List AV} {H : AH} {n : Nat} {R R' : AV → AH → Nat → Prop} (h : HCalls P f args H n R)
    (hr : ∀ r H' n', R r H' n' → R' r H' n' ∨ (r = .sc (.slice none 0 0) ∧ ∃ z, R' (.lst z []) H' n')) : HCalls P f args H n R' :=
  ⟨h.1, fun w B0 base β cargs h1 h2 h3 h4 => (h.2 w B0 base β cargs h1 h2 h3 h4).mono fun _ w' ⟨β', n', H', r, v, k1, k2, k3, k4, k5⟩ => by
    rcases hr _ _ _ k5 with h5 | ⟨rfl, z, h6⟩
    · exact ⟨β', n', H', r, v, k1, k2, k3, k4, h5⟩
    · refine ⟨β', n', H', .lst z [], v, k1, k2, k3, ?_, h6⟩
      simp only [RepV] at k4 ⊢
      exact .inl ⟨⟨_, k4⟩, by first | rfl | trivial⟩⟩
end Go.Al

/- Maps from whole numbers: made, written, looked into, counted. -/
namespace Go.Al
section
variable {P : Program} {N : Nat} {a : Act} {w w' : World} {B0 : Nat → Nat → Prop} {base : Nat} {β : Nat → Nat} {n : Nat} {H : AH} {st : AS}

/-- A new map. -/
theorem HRep.alloc_map (h : HRep w B0 base β n H) (h0 : ∀ b o, B0 b o → b < base) (hbase : base ≤ w.heap.size) {clock : Nat}
    (hw : w'.heap = w.heap.push (.map #[] clock)) (hos : w'.os = w.os) (htp : w'.tape = w.tape) (hout : w'.output = w.output) :
    HRep w' B0 base (upd β n w.heap.size) (n + 1) (upd H n (some (.map []))) ∧
      Ext w B0 β n H w' (upd β n w.heap.size) (n + 1) (upd H n (some (.map []))) := by
  have hn : ∀ id o, H id = some o → id ≠ n := fun id o ho e => by have := h.dom id o ho; omega
  have hold : ∀ k, k < w.heap.size → w'.heap[k]? = w.heap[k]? := fun k hk => by rw [hw, Array.getElem?_push, if_neg (by omega)]
  have hsz : w'.heap.size = w.heap.size + 1 := by rw [hw]; simp
  have hagree : ∀ i, i < n → upd β n w.heap.size i = β i := fun i hi => upd_ne _ _ (by omega)
  have hbad : ∀ b o, b < w.heap.size → Bad B0 (upd β n w.heap.size) (upd H n (some (.map []))) b o → Bad B0 β H b o := by
    rintro b o hb (h1 | ⟨id, t', z', es', s', h1, h2, h3⟩)
    · exact .inl h1
    · by_cases e : id = n
      · subst e; rw [upd_same] at h2; omega
      · rw [upd_ne _ _ e] at h1 h2
        exact .inr ⟨id, t', z', es', s', h1, h2, h3⟩
  have hp : Pres w (Bad B0 β H) w' (Bad B0 (upd β n w.heap.size) (upd H n (some (.map [])))) := Pres.old hold (fun b o hb h1 => hbad b o hb h1)
  refine ⟨⟨?_, ?_, ?_, ?_, ?_⟩, ⟨by omega, hagree, hp, by omega, hos, htp, hout, fun k hk _ => hold k hk, ?_⟩⟩
  · intro id o ho
    by_cases e : id = n
    · omega
    · rw [upd_ne _ _ e] at ho; have := h.dom id o ho; omega
  · intro id o ho
    by_cases e : id = n
    · subst e; rw [upd_same]; omega
    · rw [upd_ne _ _ e] at ho ⊢; have := h.own id o ho; omega
  · intro i j o o' hi hj e
    by_cases e1 : i = n <;> by_cases e2 : j = n
    · omega
    · subst e1; rw [upd_ne _ _ e2] at hj e; rw [upd_same] at e; have := (h.own j o' hj).2; omega
    · subst e2; rw [upd_ne _ _ e1] at hi e; rw [upd_same] at e; have := (h.own i o hi).2; omega
    · rw [upd_ne _ _ e1] at hi e; rw [upd_ne _ _ e2] at hj e; exact h.inj i j o o' hi hj e
  · intro id t' z' es' s' ho
    by_cases e : id = n
    · subst e; rw [upd_same] at ho; simp at ho
    · rw [upd_ne _ _ e] at ho ⊢
      obtain ⟨cur, cap, h1, h2, h3, h4, h5, h6⟩ := h.obj id t' z' es' s' ho
      exact ⟨cur, cap, by rw [hold _ (h.own id _ ho).2]; exact h1, h2, h3, h4, h5.mono hp hagree (by omega), h6⟩
  · intro id es' ho
    by_cases e : id = n
    · subst e
      rw [upd_same] at ho ⊢
      simp only [Option.some.injEq, AO.map.injEq] at ho
      subst ho
      exact ⟨#[], clock, by rw [hw]; simp, by simp only [RepM]⟩
    · rw [upd_ne _ _ e] at ho ⊢
      obtain ⟨ents, clock, h1, h2⟩ := h.map id es' ho
      exact ⟨ents, clock, by rw [hold _ (h.own id _ ho).2]; exact h1, h2.mono hp hagree (by omega)⟩
  · intro id o ho
    by_cases e : id = n
    · subst e; rw [upd_same]; exact .inr (Nat.le_refl _)
    · rw [upd_ne _ _ e] at ho ⊢; exact .inl ⟨id, o, ho, rfl⟩

/-- A map's entries are others. -/
theorem HRep.map_to {id : Nat} {es es' : List (Value × AV)} {ents' : Array MapEntry} {clock' : Nat} (h : HRep w B0 base β n H) (h0 : ∀ b o, B0 b o → b < base)
    (hid : H id = some (.map es)) (hw : w'.heap = w.heap.setIfInBounds (β id) (.map ents' clock')) (hos : w'.os = w.os) (htp : w'.tape = w.tape) (hout : w'.output = w.output)
    (hc : RepM w (Bad B0 β H) β n es' ents'.toList) :
    HRep w' B0 base β n (upd H id (some (.map es'))) ∧ Ext w B0 β n H w' β n (upd H id (some (.map es'))) := by
  obtain ⟨ents, clock, g1, g2⟩ := h.map id es hid
  have hlt := (h.own id _ hid).2
  have hbad : ∀ b o, Bad B0 β (upd H id (some (.map es'))) b o → Bad B0 β H b o := by
    rintro b o (h1 | ⟨i, t', z', es1, s', h1, h2, h3⟩)
    · exact .inl h1
    · by_cases e : i = id
      · subst e; rw [upd_same] at h1; simp at h1
      · rw [upd_ne _ _ e] at h1; exact .inr ⟨i, t', z', es1, s', h1, h2, h3⟩
  have hsz : w'.heap.size = w.heap.size := by rw [hw]; simp
  have hother : ∀ k, k ≠ β id → w'.heap[k]? = w.heap[k]? := fun k hk => by rw [hw, Array.getElem?_setIfInBounds_ne (Ne.symm hk)]
  have hself : w'.heap[β id]? = some (.map ents' clock') := by rw [hw]; simp [hlt]
  have hnc : ∀ o, w.cell? ⟨β id, o, none⟩ = none := fun o => by simp [World.cell?, g1]
  have hp : Pres w (Bad B0 β H) w' (Bad B0 β (upd H id (some (.map es')))) := by
    refine ⟨fun b o u hu hnb => ⟨?_, fun hb => hnb (hbad b o hb)⟩, fun b o h1 => ?_⟩
    · by_cases e : b = β id
      · subst e; rw [hnc] at hu; cases hu
      · rw [← hu]; exact World.cell?_of_block (hother b e)
    · by_cases e : b = β id
      · subst e; rw [hnc] at h1; cases h1
      · rw [World.cell?_of_block (hother b e)]; exact h1
  have hb : ∀ i o, H i = some o → i ≠ id → β i ≠ β id := fun i o hi hne e => hne (h.inj i id o _ hi hid e)
  have key : ∀ i o, upd H id (some (.map es')) i = some o → ∃ o', H i = some o' := fun i o ho => by
    by_cases e : i = id
    · subst e; exact ⟨_, hid⟩
    · rw [upd_ne _ _ e] at ho; exact ⟨o, ho⟩
  refine ⟨⟨?_, ?_, ?_, ?_, ?_⟩, ⟨Nat.le_refl _, fun _ _ => rfl, hp, by omega, hos, htp, hout, fun k hk hne => hother k (fun e => hne id _ hid e.symm), ?_⟩⟩
  · intro i o ho; obtain ⟨o', h1⟩ := key i o ho; exact h.dom i o' h1
  · intro i o ho; obtain ⟨o', h1⟩ := key i o ho; rw [hsz]; exact h.own i o' h1
  · intro i j o o' hi hj e
    obtain ⟨_, h1⟩ := key i o hi
    obtain ⟨_, h2⟩ := key j o' hj
    exact h.inj i j _ _ h1 h2 e
  · intro i t' z' es1 s' ho
    by_cases e : i = id
    · subst e; rw [upd_same] at ho; simp at ho
    · rw [upd_ne _ _ e] at ho
      obtain ⟨cur, cap, h1, h2, h3, h4, h5, h6⟩ := h.obj i _ _ _ _ ho
      exact ⟨cur, cap, by rw [hother _ (hb i _ ho e)]; exact h1, h2, h3, h4, h5.mono hp (fun _ _ => rfl) (Nat.le_refl _), h6⟩
  · intro i es1 ho
    by_cases e : i = id
    · subst e
      rw [upd_same] at ho
      simp only [Option.some.injEq, AO.map.injEq] at ho
      subst ho
      exact ⟨ents', clock', hself, hc.mono hp (fun _ _ => rfl) (Nat.le_refl _)⟩
    · rw [upd_ne _ _ e] at ho
      obtain ⟨ents, clock, h1, h2⟩ := h.map i es1 ho
      exact ⟨ents, clock, by rw [hother _ (hb i _ ho e)]; exact h1, h2.mono hp (fun _ _ => rfl) (Nat.le_refl _)⟩
  · intro i o ho; obtain ⟨o', h1⟩ := key i o ho; exact .inl ⟨i, o', h1, rfl⟩

/-- A set: whole numbers, each told true. -/
def setM (k : IntKind) (ks : List Int) : List (Value × AV) := ks.map fun x => (.int k x, .sc (.bool true))
def mapOf (P : Program) (t : TypeId) : Option (TypeId × TypeId) := match P.underlying t with | some (.map k e) => some (k, e) | _ => none
theorem mapOf_some {t : TypeId} {p : TypeId × TypeId} (h : mapOf P t = some p) : P.underlying t = some (.map p.1 p.2) := by
  unfold mapOf at h
  split at h
  · rename_i h1; cases h; exact h1
  · cases h
theorem inOf_some' {t : TypeId} {k : IntKind} (h : inOf P t = some k) : P.underlying t = some (.int k) := by
  unfold inOf at h
  split at h
  · rename_i h1; cases h; exact h1
  · cases h
theorem findNow_set {k : IntKind} {B : Nat → Nat → Prop} (x : Int) : ∀ (ks : List Int) (l : List MapEntry) (i : Nat), RepM w B β n (setM k ks) l →
    (x ∉ ks ∧ Instr.findNow (.int k) (.int k x) l i = some none) ∨ (x ∈ ks ∧ ∃ j e, Instr.findNow (.int k) (.int k x) l i = some (some (i + j, .bool true)) ∧ l[j]? = some e ∧ e.key = .int k x ∧ e.val = .bool true)
  | [], l, i, h => by
    simp only [setM, List.map_nil, RepM] at h
    subst h
    exact .inl ⟨by simp, rfl⟩
  | y :: ks, l, i, h => by
    simp only [setM, List.map_cons, RepM] at h
    obtain ⟨e, l', rfl, h1, h2, h3⟩ := h
    simp only [RepV] at h2
    by_cases hxy : x = y
    · subst hxy
      refine .inr ⟨by simp, 0, e, ?_, rfl, h1, h2⟩
      simp [Instr.findNow, h1, Instr.sameNow, h2]
    · have ih := findNow_set x ks l' (i + 1) h3
      have e0 : Instr.findNow (.int k) (.int k x) (e :: l') i = Instr.findNow (.int k) (.int k x) l' (i + 1) := by
        have hb : (x == y) = false := by simpa using hxy
        simp [Instr.findNow, h1, Instr.sameNow, hb]
      rcases ih with ⟨i1, i2⟩ | ⟨i1, j, e', i2, i3, i4, i5⟩
      · exact .inl ⟨by simp [hxy, i1], by rw [e0]; exact i2⟩
      · exact .inr ⟨by simp [i1], j + 1, e', by rw [e0, i2]; congr 3; omega, by simpa using i3, i4, i5⟩
theorem RepM.push {B : Nat → Nat → Prop} {k : Value} {v : AV} {e : MapEntry} (hk : e.key = k) (hv : RepV w B β n v e.val) : ∀ {es : List (Value × AV)} {l : List MapEntry}, RepM w B β n es l → RepM w B β n (es ++ [(k, v)]) (l ++ [e])
  | [], l, h => by simp only [RepM] at h; subst h; simp only [List.nil_append, RepM]; exact ⟨e, [], rfl, hk, hv, rfl⟩
  | (k', v') :: es, l, h => by
    simp only [RepM] at h
    obtain ⟨e', l', rfl, h1, h2, h3⟩ := h
    simp only [List.cons_append, RepM]
    exact ⟨e', l' ++ [e], rfl, h1, h2, RepM.push hk hv h3⟩
theorem RepM.len {B : Nat → Nat → Prop} : ∀ {es : List (Value × AV)} {l : List MapEntry}, RepM w B β n es l → l.length = es.length
  | [], l, h => by simp only [RepM] at h; subst h; rfl
  | (k', v') :: es, l, h => by
    simp only [RepM] at h
    obtain ⟨e', l', rfl, h1, h2, h3⟩ := h
    simp [RepM.len h3]

theorem AStepX.makeMap {o : Oper} {t : TypeId} {p : TypeId × TypeId} {r : Option Operand} {K : AS → Prop} (ho : o.op = .makeMap t r) (hm : mapOf P t = some p) (hr : ∀ x, r = some x → ∃ k i, st.ev x = .sc (.int k i))
    (hk : K ((AS.mk st.t (upd st.H st.n (some (.map []))) (st.n + 1)).put o.dst (.mp st.n))) : AStepX P o st K := by
  intro N a w B0 base β hi
  have hu := mapOf_some hm
  obtain ⟨m1, m2⟩ := hi.heap.alloc_map (w' := w.alloc (.map #[] 0)) hi.b0 hi.base (clock := 0) rfl rfl rfl rfl
  refine ⟨_, _, _, ⟨_, _, .map (some w.heap.size), .inl ?_, m1, m2, by simp only [RepV]; exact ⟨by omega, by rw [upd_same]⟩⟩, hk⟩
  cases r with
  | none => simp [execOp, ho, Instr.makeMap]
  | some x =>
    obtain ⟨k, i, hx⟩ := hr x rfl
    have := hi.ev x
    rw [hx] at this
    simp only [RepV] at this
    simp [execOp, ho, Instr.makeMap, run_underlying hu, this, asInt, asIntOf]
theorem AStepX.mapUpdate {o : Oper} {t : TypeId} {p : TypeId × TypeId} {m x y : Operand} {id : Nat} {k : IntKind} {v : Int} {ks : List Int} {K : AS → Prop} (ho : o.op = .mapUpdate t m x y) (hm : mapOf P t = some p) (hkt : inOf P p.1 = some k)
    (hmv : st.ev m = .mp id) (hx : st.ev x = .sc (.int k v)) (hy : st.ev y = .sc (.bool true)) (hH : st.H id = some (.map (setM k ks)))
    (hk : K ((AS.mk st.t (upd st.H id (some (.map (setM k (if v ∈ ks then ks else ks ++ [v]))))) st.n).put o.dst .any)) : AStepX P o st K := by
  intro N a w B0 base β hi
  have hu := mapOf_some hm
  have hd := inOf_some' hkt
  have hmr := hi.ev m
  rw [hmv] at hmr
  simp only [RepV] at hmr
  have hxr := hi.ev x
  rw [hx] at hxr
  simp only [RepV] at hxr
  have hyr := hi.ev y
  rw [hy] at hyr
  simp only [RepV] at hyr
  obtain ⟨ents, clock, g1, g2⟩ := hi.heap.map id _ hH
  have hik : MapKept.IsKey (.int k) (.int k v) := rfl
  rcases findNow_set (n := st.n) v ks ents.toList 0 g2 with ⟨h1, h2⟩ | ⟨h1, j, e, h2, h3, h4, h5⟩
  · rw [if_neg h1] at hk
    obtain ⟨m1, m2⟩ := hi.heap.map_to (w' := { w with heap := w.heap.setIfInBounds (β id) (.map (ents.push { key := .int k v, val := .bool true, born := clock }) (clock + 1)) }) (es' := setM k (ks ++ [v])) hi.b0 hH rfl rfl rfl rfl (by
      rw [Array.toList_push]
      simp only [setM, List.map_append, List.map_cons, List.map_nil]
      exact RepM.push (v := .sc (.bool true)) (e := { key := .int k v, val := .bool true, born := clock }) rfl (by simp only [RepV]) g2)
    refine ⟨_, _, _, ⟨_, _, undef, .inr ⟨?_, rfl⟩, m1, m2, by simp only [RepV]⟩, hk⟩
    simp [execOp, ho, Instr.mapUpdate, run_underlying hu, hmr.2, hxr, hyr, MapKept.run_getObj_map g1, MapKept.run_checkKey hd hik, MapKept.run_findKey hd h2, MapKept.run_setObj_map _ g1]
  · rw [if_pos h1] at hk
    have hj : ents[j]? = some e := by simpa using h3
    have hmod : (ents.modify j fun e => { e with key := .int k v, val := .bool true }).toList = ents.toList := by
      apply List.ext_getElem?
      intro q
      simp only [Array.getElem?_toList, Array.getElem?_modify]
      by_cases hq : j = q
      · subst hq
        rw [if_pos rfl, hj]
        simp only [Option.map_some]
        congr 1
        cases e
        simp only at h4 h5
        rw [← h4, ← h5]
      · rw [if_neg hq]
    obtain ⟨m1, m2⟩ := hi.heap.map_to (w' := { w with heap := w.heap.setIfInBounds (β id) (.map (ents.modify j fun e => { e with key := .int k v, val := .bool true }) clock) }) (es' := setM k ks) hi.b0 hH rfl rfl rfl rfl (by rw [hmod]; exact g2)
    refine ⟨_, _, _, ⟨_, _, undef, .inr ⟨?_, rfl⟩, m1, m2, by simp only [RepV]⟩, hk⟩
    rw [Nat.zero_add] at h2
    simp [execOp, ho, Instr.mapUpdate, run_underlying hu, hmr.2, hxr, hyr, MapKept.run_getObj_map g1, MapKept.run_checkKey hd hik, MapKept.run_findKey hd h2, hj, h4, MapKept.run_keyThatStays hik, MapKept.run_setObj_map _ g1]
theorem AStepX.lookup {o : Oper} {t : TypeId} {p : TypeId × TypeId} {m x : Operand} {id : Nat} {k : IntKind} {v : Int} {ks : List Int} {T : Ty} {K : AS → Prop} (ho : o.op = .lookup t m x false) (hm : mapOf P t = some p) (hkt : inOf P p.1 = some k)
    (hT : tyOf P p.2 = some T) (hz : P.info? p.2 |>.bind (·.zero) |>.isSome) (hzv : ∀ i, P.info? p.2 = some i → i.zero = some (.bool false)) (hmv : st.ev m = .mp id) (hx : st.ev x = .sc (.int k v)) (hH : st.H id = some (.map (setM k ks)))
    (hk : K (st.put o.dst (.sc (.bool (decide (v ∈ ks)))))) : AStepX P o st K := by
  intro N a w B0 base β hi
  have hu := mapOf_some hm
  have hd := inOf_some' hkt
  have hmr := hi.ev m
  rw [hmv] at hmr
  simp only [RepV] at hmr
  have hxr := hi.ev x
  rw [hx] at hxr
  simp only [RepV] at hxr
  obtain ⟨ents, clock, g1, g2⟩ := hi.heap.map id _ hH
  have hik : MapKept.IsKey (.int k) (.int k v) := rfl
  obtain ⟨i, d, i1, i2, i3, i4, i5, i6⟩ := tyOf_some hT
  have hzz := hzv i i1
  refine ⟨_, _, _, Done.quiet hi (u := .bool (decide (v ∈ ks))) ?_ (by simp only [RepV]), hk⟩
  rcases findNow_set (n := st.n) v ks ents.toList 0 g2 with ⟨h1, h2⟩ | ⟨h1, j, e, h2, h3, h4, h5⟩
  · simp [execOp, ho, Instr.lookup, run_underlying hu, hmr.2, hxr, MapKept.run_getObj_map g1, MapKept.run_checkKey hd hik, MapKept.run_findKey hd h2, h1, zeroValue, typeInfo, i1, hzz]
  · simp [execOp, ho, Instr.lookup, run_underlying hu, hmr.2, hxr, MapKept.run_getObj_map g1, MapKept.run_checkKey hd hik, MapKept.run_findKey hd h2, h1]
theorem AStepX.maplen {o : Oper} {c : Call} {x : Operand} {t id : Nat} {p : TypeId × TypeId} {es : List (Value × AV)} {K : AS → Prop} (ho : o.op = .call c) (hc : c.callee = .builtin .len) (ha : c.args = #[x]) (ht : c.argTypes = #[t])
    (hm : mapOf P t = some p) (hx : st.ev x = .mp id) (hH : st.H id = some (.map es)) (hk : K (st.put o.dst (.sc (.int .i64 es.length)))) : AStepX P o st K := by
  intro N a w B0 base β hi
  have hu := mapOf_some hm
  have hxr := hi.ev x
  rw [hx] at hxr
  simp only [RepV] at hxr
  obtain ⟨ents, clock, g1, g2⟩ := hi.heap.map id _ hH
  have hl : ents.size = es.length := by simpa using g2.len
  refine ⟨_, _, _, Done.quiet hi (u := .int .i64 es.length) ?_ (by simp only [RepV]), hk⟩
  simp only [execOp, ho, resolve, hc, invoke, builtin, ha, ht, Sem.run_bind, Sem.run_pure, Result.andThen_ok, List.map_toArray, List.map_cons, List.map_nil, hxr.2]
  simp [Builtin.len_, run_underlying hu, MapKept.run_getObj_map g1, goInt]
  omega
end
end Go.Al

/- Loops that count up, rows that grow, and what a value is seen as. -/
namespace Go.Al
section
variable {P : Program} {N : Nat} {Q : Exit → AS → Prop} {st : AS}
/-- Every object's number is below the count. -/
def Below (st : AS) : Prop := ∀ id o, st.H id = some o → id < st.n
theorem AWP.below {c : Code} (h : Al.Below st → AWP P N c Q st) : AWP P N c Q st := fun a w B0 base β hi => h (fun id o ho => hi.heap.dom id o ho) a w B0 base β hi
/-- A loop that counts up to m. -/
theorem ALoop.upto {c : Code} (m : Nat) (I : Nat → AS → Prop) (h0 : I 0 st) (round : ∀ p s, p ≤ m → Al.Below s → I p s → ax P N c (AThen (fun s' => p < m ∧ I (p + 1) s') Q) s) : ALoop P N c Q st := by
  refine AWP_loop (fun k s => ∃ p, p ≤ m ∧ k = m - p ∧ I p s) m ⟨0, by omega, rfl, h0⟩ ?_
  rintro k s ⟨p, hp, rfl, hI⟩
  refine AWP.below fun hb => (ax_sound c _ s (round p s hp hb hI)).mono fun e s' h => ?_
  cases e <;> simp only [AThen] at h ⊢
  case normal => exact ⟨m - (p + 1), by omega, p + 1, by omega, rfl, h.2⟩
  all_goals exact h
/-- A loop with a measure, of states of some form. -/
theorem ALoop.falls {α : Type} {c : Code} (m : α → Nat) (I : α → AS → Prop) (x : α) (h0 : I x st) (round : ∀ x s, Al.Below s → I x s → ax P N c (AThen (fun s' => ∃ y, m y < m x ∧ I y s') Q) s) : ALoop P N c Q st := by
  refine AWP_loop (fun k s => ∃ x, k = m x ∧ I x s) (m x) ⟨x, rfl, h0⟩ ?_
  rintro k s ⟨x, rfl, hI⟩
  refine AWP.below fun hb => (ax_sound c _ s (round x s hb hI)).mono fun e s' h => ?_
  cases e <;> simp only [AThen] at h ⊢
  case normal =>
    obtain ⟨y, h1, h2⟩ := h
    exact ⟨m y, h1, y, rfl, h2⟩
  all_goals exact h
end
theorem idx {α : Type} {l : List α} {p : Nat} (h : p < l.length) (hl : l.length ≤ 1099511627776) : ∃ x, l[p]? = some x ∧ (0 : Int) ≤ p ∧ (p : Int) < l.length ∧ IntKind.i64.wrap ((p : Int) + 1) = ((p + 1 : Nat) : Int) ∧
    l.take (p + 1) = l.take p ++ [x] ∧ l.drop p = x :: l.drop (p + 1) := by
  refine ⟨l[p], List.getElem?_eq_getElem h, by omega, by omega, ?_, ?_, ?_⟩
  · rw [wrap_in (by omega) (by omega)]; rfl
  · rw [List.take_add_one, List.getElem?_eq_getElem h]; rfl
  · rw [List.drop_eq_getElem_cons h]

/-- A row of one's own: nil, or a live one. -/
def Live (te z : Nat) (H : AH) (es : List (List AV)) (v : AV) : Prop := (es = [] ∧ v = .sc (.slice none 0 0)) ∨ ∃ id, v = .sl id z 0 es.length ∧ H id = some (.obj te z es false)
theorem Live.cases {te z : Nat} {st : AS} {es : List (List AV)} {v : AV} (h : Live te z st.H es v) (hb : Al.Below st) : (es = [] ∧ v = .sc (.slice none 0 0)) ∨ ∃ id, id < st.n ∧ id ≠ st.n ∧ v = .sl id z 0 es.length ∧ st.H id = some (.obj te z es false) := by
  rcases h with h | ⟨id, h1, h2⟩
  · exact .inl h
  · have := hb id _ h2
    exact .inr ⟨id, this, by omega, h1, h2⟩
theorem Live.nil {te z : Nat} {H : AH} : Live te z H [] (.sc (.slice none 0 0)) := .inl ⟨rfl, rfl⟩
theorem Live.mk {te z id m : Nat} {H : AH} {es : List (List AV)} (h : H id = some (.obj te z es false)) (hm : m = es.length) : Live te z H es (.sl id z 0 m) := .inr ⟨id, by rw [hm], h⟩

section
variable {w : World} {B0 : Nat → Nat → Prop} {base : Nat} {β : Nat → Nat} {n : Nat} {H : AH}
/-- A value without objects that one of a heap may be taken for. -/
structure Sees (H : AH) (loose : Bool) (a a' : AV) : Prop where
  no : noIds a' = true
  rep : ∀ (w : World) (B0 : Nat → Nat → Prop) (base : Nat) (β : Nat → Nat) (n : Nat) (Bx : Nat → Nat → Prop) (v : Value), HRep w B0 base β n H → Pres w (Bad B0 β H) w Bx →
    (∀ id t z es s, H id = some (.obj t z es s) → (s || loose) = true → ∀ o, o < es.length * z → ¬ Bx (β id) o) → RepV w (Bad B0 β H) β n a v → RepV w Bx β n a' v
theorem Sees.of_seen {loose : Bool} {a a' : AV} (k : Nat) (h : seen H loose k a = some a') : Sees H loose a a' :=
  ⟨seen_noIds k a a' h, fun w B0 base β n Bx v hh hp hx hr => seen_rep hh hp hx k a a' v h hr⟩
theorem Sees.none {loose : Bool} {z : Nat} : Sees H loose (.sc (.slice none 0 0)) (.lst z []) :=
  ⟨by simp [noIds, noIdsE], fun w B0 base β n Bx v _ _ _ hr => by simp only [RepV] at hr ⊢; exact .inl ⟨⟨_, hr⟩, trivial⟩⟩
theorem Sees.same {loose : Bool} {a : AV} (h : noIds a = true) : Sees H loose a a :=
  ⟨h, fun w B0 base β n Bx v hh hp hx hr => RepV.mono hp (fun _ _ => rfl) (Nat.le_refl _) a v hr⟩
theorem Sees.sc {loose : Bool} {u : Value} : Sees H loose (.sc u) (.sc u) := .same (by simp [noIds])
theorem Sees.row {loose : Bool} {te z id off m : Nat} {es : List (List AV)} {s : Bool} (h : H id = some (.obj te z es s)) (hb : (s || loose) = true) (ho : off + m ≤ es.length) (hn : noIdsE ((es.drop off).take m) = true) : Sees H loose (.sl id z off m) (.lst z ((es.drop off).take m)) :=
  .of_seen 1 (by simp only [seen, h, hn, hb]; simp [ho])
theorem Sees.whole {loose : Bool} {te z id m : Nat} {es : List (List AV)} {s : Bool} (h : H id = some (.obj te z es s)) (hb : (s || loose) = true) (hm : m = es.length) (hn : noIdsE es = true) : Sees H loose (.sl id z 0 m) (.lst z es) := by
  have e : (es.drop 0).take m = es := by rw [List.drop_zero, hm, List.take_length]
  have := Sees.row (off := 0) (m := m) h hb (by omega) (by rw [e]; exact hn)
  rwa [e] at this
theorem Sees.obj {loose : Bool} {z id m : Nat} {es : List (List AV)} (h : ∃ te s, H id = some (.obj te z es s) ∧ (s || loose) = true) (hm : m = es.length) (hn : noIdsE es = true) : Sees H loose (.sl id z 0 m) (.lst z es) := by
  obtain ⟨te, s, h1, h2⟩ := h
  exact Sees.whole h1 h2 hm hn
theorem Live.sees {te z : Nat} {es : List (List AV)} {v : AV} (h : Live te z H es v) (hn : noIdsE es = true) : Sees H true v (.lst z es) := by
  rcases h with ⟨rfl, rfl⟩ | ⟨id, rfl, h⟩
  · exact Sees.none
  · exact Sees.whole h rfl rfl hn
def SeesL (H : AH) (loose : Bool) : List AV → List AV → Prop
  | [], [] => True
  | a :: as, b :: bs => Sees H loose a b ∧ SeesL H loose as bs
  | _, _ => False
theorem SeesL.noIds {loose : Bool} : ∀ {as bs : List AV}, SeesL H loose as bs → noIdsL bs = true
  | [], [], _ => by simp [noIdsL]
  | a :: as, b :: bs, h => by simp only [SeesL] at h; simp [noIdsL, h.1.no, SeesL.noIds h.2]
  | [], _ :: _, h => by simp [SeesL] at h
  | _ :: _, [], h => by simp [SeesL] at h
theorem SeesL.repL {loose : Bool} {Bx : Nat → Nat → Prop} (hh : HRep w B0 base β n H) (hp : Pres w (Bad B0 β H) w Bx)
    (hx : ∀ id t z es s, H id = some (.obj t z es s) → (s || loose) = true → ∀ o, o < es.length * z → ¬ Bx (β id) o) : ∀ {as bs : List AV} {vs : List Value}, SeesL H loose as bs → RepL w (Bad B0 β H) β n as vs → RepL w Bx β n bs vs
  | [], [], vs, _, k => by simpa only [RepL] using k
  | a :: as, b :: bs, vs, h, k => by
    simp only [SeesL] at h
    simp only [RepL] at k ⊢
    obtain ⟨u, us, e, k1, k2⟩ := k
    exact ⟨u, us, e, h.1.rep w B0 base β n Bx u hh hp hx k1, SeesL.repL hh hp hx h.2 k2⟩
  | [], _ :: _, _, h, _ => by simp [SeesL] at h
  | _ :: _, [], _, h, _ => by simp [SeesL] at h
theorem SeesL.repC {loose : Bool} {Bx : Nat → Nat → Prop} (hh : HRep w B0 base β n H) (hp : Pres w (Bad B0 β H) w Bx)
    (hx : ∀ id t z es s, H id = some (.obj t z es s) → (s || loose) = true → ∀ o, o < es.length * z → ¬ Bx (β id) o) : ∀ {as bs : List AV} {vs : List Value}, SeesL H loose as bs → RepC w (Bad B0 β H) β n as vs → RepC w Bx β n bs vs
  | [], [], vs, _, k => by simpa only [RepC] using k
  | a :: as, b :: bs, vs, h, k => by
    simp only [SeesL] at h
    simp only [RepC] at k ⊢
    obtain ⟨u, us, e, k1, k0, k2⟩ := k
    exact ⟨u, us, e, h.1.rep w B0 base β n Bx u hh hp hx k1, k0, SeesL.repC hh hp hx h.2 k2⟩
  | [], _ :: _, _, h, _ => by simp [SeesL] at h
  | _ :: _, [], _, h, _ => by simp [SeesL] at h
theorem Sees.agg {loose : Bool} {as bs : List AV} (h : SeesL H loose as bs) : Sees H loose (.agg as) (.agg bs) :=
  ⟨by simp [Al.noIds, h.noIds], fun w B0 base β n Bx v hh hp hx hr => by
    simp only [RepV] at hr ⊢
    obtain ⟨vs, e, k⟩ := hr
    exact ⟨vs, e, h.repC hh hp hx k⟩⟩
theorem Sees.tup {loose : Bool} {as bs : List AV} (h : SeesL H loose as bs) : Sees H loose (.tup as) (.tup bs) :=
  ⟨by simp [Al.noIds, h.noIds], fun w B0 base β n Bx v hh hp hx hr => by
    simp only [RepV] at hr ⊢
    obtain ⟨vs, e, k⟩ := hr
    exact ⟨vs, e, h.repL hh hp hx k⟩⟩

variable {P : Program}
theorem PCalls.intro2 {f : FuncId} {fn : Func} {c : Code} {args : List AV} {r : AV} {N : Nat} {rs : Array ResultVar} (hf : P.funcs[f]? = some fn) (hb : fn.body = some c)
    (hn : (fn.name == "runtime.NumGoroutine") = false) (ht : fn.ntmps = N) (hr : fn.results = rs) (hN : args.length ≤ N)
    (h : ∀ n, ax P N c (FPost P rs.toList fun v H _ => Sees H true v r) ⟨fun i => args.getD i .any, H0, n⟩) : PCalls P f args r := by
  subst ht; subst hr
  refine PCalls.of_h fun n => (HCalls.intro hf hb hn hN (ax_sound c _ _ (h n))).mono ?_
  rintro r' H' n' hs w B0 base β' v h0 hh hv β hag
  obtain ⟨h1, h2⟩ := loose_ok hh h0
  exact RepV.noIds _ _ hs.no (hs.rep w B0 base β' n' B0 v hh h1 h2 hv)
theorem PCalls.strict {f : FuncId} {args args' : List AV} {r : AV} (h : PCalls P f args' r) {n : Nat} (hs : SeesL H false args args') :
    HCalls P f args H n fun r' H' n' => r' = r ∧ H' = H ∧ n' = n := by
  refine ⟨h.1, fun w B0 base β cargs h1 h2 h3 h4 => ?_⟩
  obtain ⟨g1, g2⟩ := strict_ok h3 h1
  exact (h.here H n).2 w B0 base β cargs h1 h2 h3 (hs.repL h3 g1 g2 h4)
theorem PCalls.flat {f : FuncId} {args args' : List AV} {r : AV} (h : PCalls P f args' r) {n : Nat} (hs : SeesL H true args args') (hr : flatV r = true) :
    HCalls P f args H n fun r' H' n' => r' = r ∧ H' = H ∧ n' = n := by
  refine ⟨h.1, fun w B0 base β cargs h1 h2 h3 h4 => ?_⟩
  obtain ⟨g1, g2⟩ := loose_ok h3 h1
  refine (h.2 w B0 β n cargs (fun b o hb => Nat.lt_of_lt_of_le (h1 b o hb) h2) (hs.repL h3 g1 g2 h4)).mono ?_
  rintro e w' ⟨v, rfl, hb, hv⟩
  exact ⟨β, n, H, r, v, rfl, Ext.of_below hb, h3.below hb, RepV.flat _ _ hr hv, rfl, rfl, rfl⟩
theorem ACallK.strict {o : Oper} {st : AS} {c : Call} {f : Operand} {g : FuncId} {args' : List AV} {r : AV} {d : Option Nat} {K : AS → Prop} (hf : st.ev f = .fn g []) (h : PCalls P g args' r) (hs : SeesL st.H false (c.args.toList.map st.ev) args')
    (hk : K (st.put d r)) : ACallK P o st c f d K :=
  .inl ⟨g, [], _, hf, h.strict (n := st.n) (by rw [List.append_nil]; exact hs), fun r' H' n' ⟨e1, e2, e3⟩ => by rw [e1, e2, e3]; exact hk⟩
theorem ACallK.flat {o : Oper} {st : AS} {c : Call} {f : Operand} {g : FuncId} {args' : List AV} {r : AV} {d : Option Nat} {K : AS → Prop} (hf : st.ev f = .fn g []) (h : PCalls P g args' r) (hs : SeesL st.H true (c.args.toList.map st.ev) args')
    (hr : flatV r = true) (hk : K (st.put d r)) : ACallK P o st c f d K :=
  .inl ⟨g, [], _, hf, h.flat (n := st.n) (by rw [List.append_nil]; exact hs) hr, fun r' H' n' ⟨e1, e2, e3⟩ => by rw [e1, e2, e3]; exact hk⟩
end
theorem Inv.shutO {N : Nat} {a : Act} {w : World} {B0 : Nat → Nat → Prop} {base : Nat} {β : Nat → Nat} {st : AS} {id t z : Nat} {es : List (List AV)} (h : Inv N a w B0 base β st) (hid : st.H id = some (.obj t z es false)) :
    Inv N a w B0 base β { st with H := upd st.H id (some (.obj t z es true)) } ∧ Ext w B0 β st.n st.H w β st.n (upd st.H id (some (.obj t z es true))) := by
  obtain ⟨h1, h2⟩ := h.heap.shutO hid
  exact ⟨⟨h.size, h.defers, fun i => (h.tmps i).mono h2.pres h2.agree h2.le, h1, h.b0, h.base⟩, h2⟩
/-- An object is not written any more: from a call on. -/
theorem ACallK.shutO {P : Program} {o : Oper} {st : AS} {c : Call} {f : Operand} {d : Option Nat} {K : AS → Prop} {id t z : Nat} {es : List (List AV)} (hid : st.H id = some (.obj t z es false))
    (hk : ACallK P o { st with H := upd st.H id (some (.obj t z es true)) } c f d K) : ACallK P o st c f d K := by
  have hev : ({ st with H := upd st.H id (some (.obj t z es true)) } : AS).ev = st.ev := by funext x; cases x <;> rfl
  rcases hk with ⟨g, cs, R, h1, h2, h3⟩ | h
  · refine .inl ⟨g, cs, R, by rw [← h1, hev], ⟨h2.1, fun w B0 base β cargs g1 g2 g3 g4 => ?_⟩, h3⟩
    rw [hev] at h2
    obtain ⟨k1, k2⟩ := g3.shutO hid
    refine (h2.2 w B0 base β cargs g1 g2 k1 ?_).mono ?_
    · exact RepL.mono k2.pres k2.agree k2.le _ _ g4
    · rintro e w' ⟨β', n', H', r, v, e1, e2, e3, e4, e5⟩
      exact ⟨β', n', H', r, v, e1, k2.trans e2, e3, e4, e5⟩
  · refine .inr fun N a w B0 base β hi => ?_
    obtain ⟨i1, i2⟩ := hi.shutO hid
    obtain ⟨v, H', n', ⟨w', β', u, d1, d2, d3, d4⟩, hK⟩ := h N a w B0 base β i1
    exact ⟨v, H', n', ⟨w', β', u, d1, d2, i2.trans d3, d4⟩, hK⟩
theorem beqT (b : Bool) : (b == true) = b := by cases b <;> rfl
theorem beqF (b : Bool) : (b == false) = !b := by cases b <;> rfl
theorem U_snoc (l : List Int) (x : Int) : U (l ++ [x]) = U l ++ [[.sc (.int .u64 x)]] := by simp [U]
theorem U_take (a : List Int) (k : Nat) : (U a).take k = U (a.take k) := by simp [U]
theorem U_drop (a : List Int) (k : Nat) : (U a).drop k = U (a.drop k) := by simp [U]
theorem U_append (a b : List Int) : U (a ++ b) = U a ++ U b := by simp [U]
theorem U_nil : U [] = [] := rfl
/-- Rows of rows. -/
def UU (ls : List (List Int)) : List (List AV) := ls.map fun l => [.lst 1 (U l)]
theorem UU_len (l : List (List Int)) : (UU l).length = l.length := by simp [UU]
theorem UU_get {l : List (List Int)} {p : Nat} {x : List Int} (h : l[p]? = some x) : (UU l)[p]? = some [.lst 1 (U x)] := by simp [UU, h]
theorem noIdsE_UU (l : List (List Int)) : noIdsE (UU l) = true := noIdsE_map _ (fun x => by simp [noIdsL, noIds, noIdsE_U]) l
end Go.Al

/- A law's arguments: whole numbers, structs and arrays of them, and rows of these. -/
namespace Go.Al
open Go.ChangeShapes Go.WideShapes
def flatFs (P : Program) (r : TypeId → Option (List (Option IntKind))) : List Field → Nat → Option (List (Option IntKind))
  | [], _ => some []
  | f :: fs, off => (r f.type).bind fun ks => if f.offset = off ∧ P.cellsOf f.type = ks.length then (flatFs P r fs (off + ks.length)).map (ks ++ ·) else none
/-- The kinds of a flat type's cells; none: a bool. -/
def flatK (P : Program) : Nat → TypeId → Option (List (Option IntKind))
  | 0, _ => none
  | K + 1, t => match P.underlying t with
    | some .bool => some [none]
    | some (.int k) => some [some k]
    | some (.struct fs) => (flatFs P (flatK P K) fs.toList 0).bind fun ks => if P.cellsOf t = ks.length then some ks else none
    | some (.array n e) => (flatK P K e).bind fun ks => if P.cellsOf e = ks.length ∧ P.cellsOf t = n * ks.length then some (List.replicate n ks).flatten else none
    | _ => none
def FitK : List (Option IntKind) → List Value → Prop
  | [], cs => cs = []
  | none :: ks, cs => ∃ b r, cs = .bool b :: r ∧ FitK ks r
  | some k :: ks, cs => ∃ n r, cs = .int k n :: r ∧ (Lit.int k n).wf = true ∧ FitK ks r
theorem FitK.append : ∀ {ks ks' : List (Option IntKind)} {cs cs' : List Value}, FitK ks cs → FitK ks' cs' → FitK (ks ++ ks') (cs ++ cs')
  | [], ks', cs, cs', h, h' => by simp only [FitK] at h; subst h; simpa using h'
  | none :: ks, ks', cs, cs', h, h' => by
    simp only [FitK] at h
    obtain ⟨b, r, rfl, h⟩ := h
    simp only [List.cons_append, FitK]
    exact ⟨b, r ++ cs', rfl, h.append h'⟩
  | some k :: ks, ks', cs, cs', h, h' => by
    simp only [FitK] at h
    obtain ⟨b, r, rfl, hw, h⟩ := h
    simp only [List.cons_append, FitK]
    exact ⟨b, r ++ cs', rfl, hw, h.append h'⟩
theorem FitK.len : ∀ {ks : List (Option IntKind)} {cs : List Value}, FitK ks cs → cs.length = ks.length
  | [], cs, h => by simp only [FitK] at h; subst h; rfl
  | none :: ks, cs, h => by simp only [FitK] at h; obtain ⟨b, r, rfl, h⟩ := h; simp [h.len]
  | some k :: ks, cs, h => by simp only [FitK] at h; obtain ⟨b, r, rfl, hw, h⟩ := h; simp [h.len]
theorem FitK.repC {w : World} {B : Nat → Nat → Prop} {β : Nat → Nat} {n : Nat} : ∀ {ks : List (Option IntKind)} {cs : List Value}, FitK ks cs → RepC w B β n (cs.map .sc) cs
  | [], cs, h => by simp only [FitK] at h; subst h; simp only [List.map_nil, RepC]
  | none :: ks, cs, h => by simp only [FitK] at h; obtain ⟨b, r, rfl, h⟩ := h; simp only [List.map_cons, RepC, RepV]; exact ⟨_, r, rfl, rfl, rfl, h.repC⟩
  | some k :: ks, cs, h => by simp only [FitK] at h; obtain ⟨b, r, rfl, hw, h⟩ := h; simp only [List.map_cons, RepC, RepV]; exact ⟨_, r, rfl, rfl, rfl, h.repC⟩
section
variable {H : Type} {enc : TypeId × Value → H} {P : Program} {w : World} {base : Nat} {spare : Nat → Bool} {held : Bool}
theorem flatFs_fit {r : TypeId → Option (List (Option IntKind))} {cs : List Value} {n : Nat} (hr : ∀ t ks cs x, DataW.trod enc P w base spare held n t cs = some x → r t = some ks → FitK ks cs) :
    ∀ (fs : List Field) (off : Nat) (ks : List (Option IntKind)), flatFs P r fs off = some ks → (∀ f ∈ fs, ∃ x, DataW.trod enc P w base spare held n f.type ((cs.drop f.offset).take (P.cellsOf f.type)) = some x) → FitK ks ((cs.drop off).take ks.length)
  | [], off, ks, h, _ => by simp only [flatFs, Option.some.injEq] at h; subst h; simp [FitK]
  | f :: fs, off, ks, h, hx => by
    simp only [flatFs] at h
    obtain ⟨k1, h1, h⟩ := Option.bind_eq_some_iff.1 h
    split at h
    · rename_i hc
      obtain ⟨k2, h2, rfl⟩ := Option.map_eq_some_iff.1 h
      obtain ⟨x, hx1⟩ := hx f (by simp)
      have f1 := hr _ _ _ _ hx1 h1
      rw [hc.1, hc.2] at f1
      have f2 := flatFs_fit hr fs (off + k1.length) k2 h2 (fun g hg => hx g (by simp [hg]))
      have e : (cs.drop off).take (k1 ++ k2).length = (cs.drop off).take k1.length ++ (cs.drop (off + k1.length)).take k2.length := by
        rw [List.length_append, List.take_add, List.drop_drop]
      rw [e]
      exact f1.append f2
    · cases h
theorem flat_fit : ∀ (K : Nat) {fuel : Nat} {t : TypeId} {cs : List Value} {x : DataW H × List MemPlace} {ks : List (Option IntKind)}, DataW.trod enc P w base spare held fuel t cs = some x → flatK P K t = some ks → FitK ks cs
  | 0, fuel, t, cs, x, ks, _, hk => by simp [flatK] at hk
  | K + 1, fuel, t, cs, x, ks, h, hk => by
    simp only [flatK] at hk
    split at hk
    · rename_i hu
      cases hk
      obtain ⟨b, rfl, _⟩ := DataW.trod_bool hu h
      simp only [FitK]; exact ⟨b, [], rfl, rfl⟩
    · rename_i k hu
      cases hk
      obtain ⟨n, rfl, _, hw⟩ := DataW.trod_int hu h
      simp only [FitK]; exact ⟨n, [], rfl, hw, rfl⟩
    · rename_i fs hu
      obtain ⟨k1, h1, hk⟩ := Option.bind_eq_some_iff.1 hk
      split at hk
      · rename_i hc
        cases hk
        obtain ⟨xs, n, _, _, hl, hxl, hf⟩ := DataW.trod_struct hu h
        have := flatFs_fit (cs := cs) (n := n) (fun t ks cs x a b => flat_fit K a b) fs.toList 0 ks h1 (fun f hfm => by
          obtain ⟨i, hi1, hi2⟩ := List.mem_iff_getElem.1 hfm
          have hi : fs[i]? = some f := by rw [← Array.getElem?_toList, List.getElem?_eq_getElem hi1, hi2]
          have := hf i f hi
          rw [List.getElem?_eq_getElem (by rw [hxl]; simpa using hi1)] at this
          exact ⟨_, this⟩)
        rw [List.drop_zero, List.take_of_length_le (by rw [hl, hc]; exact Nat.le_refl _)] at this
        exact this
      · cases hk
    · rename_i n e hu
      obtain ⟨k1, h1, hk⟩ := Option.bind_eq_some_iff.1 hk
      split at hk
      · rename_i hc
        cases hk
        obtain ⟨xs, m, _, _, hl, hxl, hf⟩ := DataW.trod_array hu h
        have each : ∀ i, i < n → FitK k1 ((cs.drop (i * k1.length)).take k1.length) := fun i hi => by
          have := hf i hi
          rw [List.getElem?_eq_getElem (by omega), hc.1] at this
          exact flat_fit K this h1
        have all : ∀ j, j ≤ n → FitK (List.replicate j k1).flatten (cs.take (j * k1.length)) := by
          intro j
          induction j with
          | zero => intro _; simp [FitK]
          | succ j ih =>
            intro hj
            have := (ih (by omega)).append (each j (by omega))
            rw [← List.take_add, ← Nat.succ_mul] at this
            rw [List.replicate_succ', List.flatten_append]
            simpa using this
        have := all n (Nat.le_refl _)
        rwa [List.take_of_length_le (by rw [hl, hc.2]; exact Nat.le_refl _)] at this
      · cases hk
    · cases hk
theorem getElem?_range_map {α : Type} {l : List α} {n : Nat} : True := trivial
/-- A row of flat elements, handed over. -/
theorem row_open {r : Reach} {b0 : Nat} {t e K : Nat} {ks : List (Option IntKind)} {v : Value} {d : DataW H} {ps : List MemPlace} (hu : P.underlying t = some (.slice e)) (hk : flatK P K e = some ks) (hc : P.cellsOf e = ks.length)
    (hv : Value.okWide P w r b0 t v) (h : DataW.Trod enc P w base spare held t v d ps) :
    ∃ es : List (List Value), (∀ x ∈ es, FitK ks x) ∧ es.length ≤ maxLen ∧ ∀ (β : Nat → Nat) (n : Nat), RepV w (fun _ _ => False) β n (.lst ks.length (es.map fun e => e.map .sc)) v := by
  obtain ⟨a, len, cap, rfl⟩ := okWide_slice hu hv
  obtain ⟨fuel, hf⟩ := h
  rcases DataW.trod_slice hu hf with ⟨hcs, _⟩ | ⟨a', len', cap', elems, rest, m, _, hcs, _, hb, hl, hm, hlen, hel, _, _⟩
  · simp [Value.cells] at hcs
    obtain ⟨rfl, rfl, rfl⟩ := hcs
    exact ⟨[], by simp, by simp, fun β n => by simp only [RepV]; exact .inl ⟨⟨_, rfl⟩, rfl⟩⟩
  · simp [Value.cells] at hcs
    obtain ⟨rfl, rfl, rfl⟩ := hcs
    have hsp : a'.spot = none := by
      simp only [Value.okWide, hu, Cell.okWide, Cell.ok] at hv
      exact hv.2.2.2.1
    have ha : a' = ⟨a'.block, a'.off, none⟩ := by cases a'; simp at hsp; subst hsp; rfl
    rw [hc] at hel
    have each : ∀ i, i < len → ∃ x : List Value, FitK ks x ∧ ∀ j u, x[j]? = some u → w.cell? ⟨a'.block, a'.off + i * ks.length + j, none⟩ = some u := by
      intro i hi
      have := hel i hi
      rw [List.getElem?_eq_getElem (by omega)] at this
      obtain ⟨x, hx, hy⟩ := Option.bind_eq_some_iff.1 this
      refine ⟨x, flat_fit K hy hk, fun j u hj => ?_⟩
      obtain ⟨_, hxl, hxc⟩ := World.cells?_some hx
      have hjl : j < ks.length := by have := (List.getElem?_eq_some_iff.1 hj).1; omega
      have := hxc j hjl
      rw [ha] at this
      rw [← hj, ← this, Addr.add_lit, Addr.add_lit]
    have build : ∀ k, k ≤ len → ∃ es : List (List Value), es.length = k ∧ (∀ x ∈ es, FitK ks x) ∧ ∀ (β : Nat → Nat) (n : Nat), RepEs w (fun _ _ => False) β n ks.length a'.block (a'.off + (len - k) * ks.length) (es.map fun e => e.map .sc) := by
      intro k
      induction k with
      | zero => intro _; exact ⟨[], rfl, by simp, fun β n => by simp [RepEs]⟩
      | succ k ih =>
        intro hk'
        obtain ⟨es, h1, h2, h3⟩ := ih (by omega)
        obtain ⟨x, hx1, hx2⟩ := each (len - (k + 1)) (by omega)
        refine ⟨x :: es, by simp [h1], by intro y hy; rcases List.mem_cons.1 hy with rfl | hy; exact hx1; exact h2 y hy, fun β n => ?_⟩
        simp only [List.map_cons, RepEs]
        refine ⟨by rw [List.length_map]; exact hx1.len, ?_, ?_⟩
        · exact RepF.of_cells (B := fun _ _ => False) (vs := x) hx1.repC (fun j u hj => hx2 j u hj) (by simp) ⟨fun _ _ _ a b => ⟨a, b⟩, fun _ _ a => a⟩
        · have := h3 β n
          rwa [show a'.off + (len - (k + 1)) * ks.length + ks.length = a'.off + (len - k) * ks.length by
            rw [Nat.add_assoc, ← Nat.succ_mul, show (len - (k + 1)).succ = len - k by omega]]
    obtain ⟨es, h1, h2, h3⟩ := build len (Nat.le_refl _)
    refine ⟨es, h2, by omega, fun β n => ?_⟩
    simp only [RepV]
    refine .inr ⟨a'.block, a'.off, cap, by rw [← ha, List.length_map, h1], by rw [List.length_map]; omega, ?_⟩
    have := h3 β n
    simpa using this
/-- A struct, or an array, of numbers, handed over. -/
theorem agg_open {r : Reach} {b0 : Nat} {t K : Nat} {ks : List (Option IntKind)} {v : Value} {d : DataW H} {ps : List MemPlace} (hu : (match P.underlying t with | some (.struct _) | some (.array _ _) => true | _ => false) = true) (hk : flatK P K t = some ks)
    (hv : Value.okWide P w r b0 t v) (h : DataW.Trod enc P w base spare held t v d ps) :
    ∃ x : List Value, FitK ks x ∧ ∀ (β : Nat → Nat) (n : Nat), RepV w (fun _ _ => False) β n (.agg (x.map .sc)) v := by
  obtain ⟨fuel, hf⟩ := h
  have hfit := flat_fit K hf hk
  obtain ⟨cs, rfl⟩ : ∃ cs, v = .agg cs := by
    unfold Value.okWide at hv
    split at hu
    · rename_i fs e; rw [e] at hv; obtain ⟨cs, h, _⟩ := hv; exact ⟨cs, h⟩
    · rename_i n e' e; rw [e] at hv; obtain ⟨cs, h, _⟩ := hv; exact ⟨cs, h⟩
    · cases hu
  simp only [Value.cells] at hfit
  exact ⟨cs.toList, hfit, fun β n => by simp only [RepV]; exact ⟨cs.toList, by simp, hfit.repC⟩⟩
end
/-- Elements that fit, as elements of a form. -/
theorem rows_of {α : Type} {ks : List (Option IntKind)} (f : α → List AV) (good : α → Prop) (h : ∀ x, FitK ks x → ∃ a, good a ∧ x.map AV.sc = f a) : ∀ {es : List (List Value)}, (∀ x ∈ es, FitK ks x) → ∃ l : List α, (es.map fun e => e.map AV.sc) = l.map f ∧ (∀ a ∈ l, good a) ∧ l.length = es.length
  | [], _ => ⟨[], rfl, by simp, rfl⟩
  | x :: es, hx => by
    obtain ⟨a, h1, h2⟩ := h x (hx x (by simp))
    obtain ⟨l, h3, h4, h5⟩ := rows_of f good h (es := es) (fun y hy => hx y (by simp [hy]))
    exact ⟨a :: l, by simp [h2, h3], by intro b hb; rcases List.mem_cons.1 hb with rfl | hb; exact h1; exact h4 b hb, by simp [h5]⟩
theorem rows_U {es : List (List Value)} (h : ∀ x ∈ es, FitK [some .u64] x) : ∃ l : List Int, (es.map fun e => e.map AV.sc) = U l ∧ (∀ a ∈ l, 0 ≤ a ∧ a < 18446744073709551616) ∧ l.length = es.length :=
  rows_of (fun x => [.sc (.int .u64 x)]) (fun a => 0 ≤ a ∧ a < 18446744073709551616) (fun x hx => by
    simp only [FitK] at hx
    obtain ⟨n, r, rfl, hw, rfl⟩ := hx
    refine ⟨n, ?_, rfl⟩
    simp [Lit.wf, IntKind.min, IntKind.max, IntKind.signed, IntKind.bits] at hw
    omega) h
end Go.Al

/- A region that draws, whose last operations don't mind one another's order only as they stand: each order told. -/
namespace Go.Al
section
variable {P : Program} {N : Nat} {ops : Array Oper}
theorem planB_closed {S : Nat → Bool} {A : List (List Nat)} : ∀ (plan : List (Nat × Bool)) (listed l : Array Bool), Closed ops listed → planB ops S A plan listed = some l → Closed ops l
  | [], listed, l, hcl, hp => by simp only [planB, Option.some.injEq] at hp; subst hp; exact hcl
  | (i, b) :: plan, listed, l, hcl, hp => by
    rw [planB] at hp
    by_cases hc : (if b = true then firstB ops S A listed i else decide (Region.ready .any ops listed = [i])) = true
    · rw [if_pos hc] at hp
      have hr : i ∈ Region.ready .any ops listed := by
        cases b with
        | true =>
          simp only [if_true] at hc
          unfold firstB at hc
          split at hc
          · cases hc
          · simp only [Bool.and_eq_true] at hc
            exact readyB_spec hc.1
        | false =>
          simp only [Bool.false_eq_true, if_false, decide_eq_true_eq] at hc
          rw [hc]; simp
      exact planB_closed plan _ l (hcl.set hr) hp
    · rw [if_neg hc] at hp
      cases hp
def AAll (P : Program) (G : List (Option Nat)) (K : AS → Prop) (ops : Array Oper) : List (List (Nat × Bool)) → AS → Prop
  | [], _ => True
  | a :: r, s => AOpsDB P G K (a.map fun p => (ops.getD p.1 default, false)) s ∧ AAll P G K ops r s
theorem AAll.mem {G : List (Option Nat)} {K : AS → Prop} : ∀ {alts : List (List (Nat × Bool))} {s : AS}, AAll P G K ops alts s → ∀ a ∈ alts, AOpsDB P G K (a.map fun p => (ops.getD p.1 default, false)) s
  | [], _, _, a, ha => by cases ha
  | b :: r, s, h, a, ha => by
    simp only [AAll] at h
    rcases List.mem_cons.1 ha with rfl | ha
    · exact h.1
    · exact AAll.mem h.2 a ha
def forkB (ops : Array Oper) (A : List (List Nat)) (l0 : Array Bool) (n : Nat) (alts : List (List (Nat × Bool))) : Bool :=
  !(Region.ready .any ops l0).isEmpty && (Region.ready .any ops l0).all fun i => alts.any fun a => match a with
    | (j, _) :: r => j == i && r.length == n && (match planB ops (fun _ => false) A r (l0.setIfInBounds i true) with | some l => (Region.ready .any ops l).isEmpty | none => false)
    | [] => false
theorem ADraw.fork {id : Nat} {Q : Exit → AS → Prop} {st : AS} (p0 : List (Nat × Bool)) (n : Nat) (alts : List (List (Nat × Bool))) (hm : P.follows .mixedOrders = true)
    (hc : (dstsOk N ops.toList && decide (p0.length + (n + 1) = ops.size) && (match planB ops (fun _ => false) (ancs ops.toList []) p0 (Array.replicate ops.size false) with | some l => forkB ops (ancs ops.toList []) l n alts | none => false)) = true)
    (h : AOpsDB P (ops.toList.map (·.dst)) (AAll P (ops.toList.map (·.dst)) (Q .normal) ops alts) (p0.map fun p => (ops.getD p.1 default, false)) st) : ADraw P N id ops Q st := by
  simp only [Bool.and_eq_true, decide_eq_true_eq] at hc
  obtain ⟨⟨h1, h2⟩, h3⟩ := hc
  split at h3
  · rename_i l hl
    refine ADraw.of_any (S := fun _ => false) hm h1 ?_
    have hA := ancs_ok (ops := ops) ops.toList [] (fun i => by simp) (fun j k hk => by simp at hk)
    have hcl := planB_closed p0 _ l Closed.none hl
    simp only [forkB, Bool.and_eq_true, Bool.not_eq_true', List.all_eq_true, List.any_eq_true] at h3
    obtain ⟨h4, h5⟩ := h3
    have := plan_sound (P := P) (S := fun _ => false) (K := Q .normal) hA (listed' := l) (f' := n + 1) (K' := AAll P (ops.toList.map (·.dst)) (Q .normal) ops alts) (fun s hs => by
      simp only [DAny]
      intro _
      refine ⟨fun e => (by rw [e] at h4; cases h4), fun i hi => ?_⟩
      obtain ⟨a, ha, hk⟩ := h5 i hi
      split at hk
      · rename_i j b r
        simp only [Bool.and_eq_true, beq_iff_eq] at hk
        obtain ⟨⟨e1, e2⟩, hk⟩ := hk
        subst e1
        split at hk
        · rename_i l2 hl2
          have hal := hs.mem _ ha
          rw [AOpsDB_eq] at hal
          obtain ⟨st1, hs1, hrest⟩ := AOpsD_step hal
          simp only at hs1
          obtain ⟨_, oi, hoi, _⟩ := mem_ready.1 hi
          have hget : ops.getD j default = oi := by simp [Array.getD_eq_getD_getElem?, hoi]
          rw [hget] at hs1
          refine ⟨oi, st1, hoi, hs1, ?_⟩
          have := plan_sound (P := P) (S := fun _ => false) (K := Q .normal) hA (listed' := l2) (f' := 0) (K' := Q .normal) (fun s hs => by
            simp only [DAny]
            intro _
            exact ⟨by simpa using hk, hs⟩) r _ st1 (hcl.set hi) hl2 hrest
          rw [Nat.add_zero, e2] at this
          exact this
        · cases hk
      · cases hk) p0 _ st Closed.none hl (by rw [← AOpsDB_eq]; exact h)
    rw [h2] at this
    exact this
  · cases h3
end
end Go.Al

/- Numbers of objects, told apart. -/
namespace Go.Al
theorem neS : (∀ n : Nat, (n = n + 1) = False) ∧
    (∀ n : Nat, (n + 1 = n) = False) ∧
    (∀ n : Nat, (n = n + 1 + 1) = False) ∧
    (∀ n : Nat, (n + 1 + 1 = n) = False) ∧
    (∀ n : Nat, (n = n + 1 + 1 + 1) = False) ∧
    (∀ n : Nat, (n + 1 + 1 + 1 = n) = False) ∧
    (∀ n : Nat, (n = n + 1 + 1 + 1 + 1) = False) ∧
    (∀ n : Nat, (n + 1 + 1 + 1 + 1 = n) = False) ∧
    (∀ n : Nat, (n = n + 1 + 1 + 1 + 1 + 1) = False) ∧
    (∀ n : Nat, (n + 1 + 1 + 1 + 1 + 1 = n) = False) ∧
    (∀ n : Nat, (n = n + 1 + 1 + 1 + 1 + 1 + 1) = False) ∧
    (∀ n : Nat, (n + 1 + 1 + 1 + 1 + 1 + 1 = n) = False) ∧
    (∀ n : Nat, (n = n + 1 + 1 + 1 + 1 + 1 + 1 + 1) = False) ∧
    (∀ n : Nat, (n + 1 + 1 + 1 + 1 + 1 + 1 + 1 = n) = False) ∧
    (∀ n : Nat, (n = n + 1 + 1 + 1 + 1 + 1 + 1 + 1 + 1) = False) ∧
    (∀ n : Nat, (n + 1 + 1 + 1 + 1 + 1 + 1 + 1 + 1 = n) = False) ∧
    (∀ n : Nat, (n = n + 1 + 1 + 1 + 1 + 1 + 1 + 1 + 1 + 1) = False) ∧
    (∀ n : Nat, (n + 1 + 1 + 1 + 1 + 1 + 1 + 1 + 1 + 1 = n) = False) ∧
    (∀ n : Nat, (n = n + 1 + 1 + 1 + 1 + 1 + 1 + 1 + 1 + 1 + 1) = False) ∧
    (∀ n : Nat, (n + 1 + 1 + 1 + 1 + 1 + 1 + 1 + 1 + 1 + 1 = n) = False) ∧
    (∀ n : Nat, (n = n + 1 + 1 + 1 + 1 + 1 + 1 + 1 + 1 + 1 + 1 + 1) = False) ∧
    (∀ n : Nat, (n + 1 + 1 + 1 + 1 + 1 + 1 + 1 + 1 + 1 + 1 + 1 = n) = False) ∧
    (∀ n : Nat, (n = n + 1 + 1 + 1 + 1 + 1 + 1 + 1 + 1 + 1 + 1 + 1 + 1) = False) ∧
    (∀ n : Nat, (n + 1 + 1 + 1 + 1 + 1 + 1 + 1 + 1 + 1 + 1 + 1 + 1 = n) = False) ∧
    (∀ n : Nat, (n = n + 1 + 1 + 1 + 1 + 1 + 1 + 1 + 1 + 1 + 1 + 1 + 1 + 1) = False) ∧
    (∀ n : Nat, (n + 1 + 1 + 1 + 1 + 1 + 1 + 1 + 1 + 1 + 1 + 1 + 1 + 1 = n) = False) ∧
    (∀ n : Nat, (n = n + 1 + 1 + 1 + 1 + 1 + 1 + 1 + 1 + 1 + 1 + 1 + 1 + 1 + 1) = False) ∧
    (∀ n : Nat, (n + 1 + 1 + 1 + 1 + 1 + 1 + 1 + 1 + 1 + 1 + 1 + 1 + 1 + 1 = n) = False) ∧
    (∀ n : Nat, (n = n + 1 + 1 + 1 + 1 + 1 + 1 + 1 + 1 + 1 + 1 + 1 + 1 + 1 + 1 + 1) = False) ∧
    (∀ n : Nat, (n + 1 + 1 + 1 + 1 + 1 + 1 + 1 + 1 + 1 + 1 + 1 + 1 + 1 + 1 + 1 = n) = False) ∧
    (∀ n : Nat, (n = n + 1 + 1 + 1 + 1 + 1 + 1 + 1 + 1 + 1 + 1 + 1 + 1 + 1 + 1 + 1 + 1) = False) ∧
    (∀ n : Nat, (n + 1 + 1 + 1 + 1 + 1 + 1 + 1 + 1 + 1 + 1 + 1 + 1 + 1 + 1 + 1 + 1 = n) = False) ∧
    (∀ n : Nat, (n = n + 1 + 1 + 1 + 1 + 1 + 1 + 1 + 1 + 1 + 1 + 1 + 1 + 1 + 1 + 1 + 1 + 1) = False) ∧
    (∀ n : Nat, (n + 1 + 1 + 1 + 1 + 1 + 1 + 1 + 1 + 1 + 1 + 1 + 1 + 1 + 1 + 1 + 1 + 1 = n) = False) ∧
    (∀ n : Nat, (n = n + 1 + 1 + 1 + 1 + 1 + 1 + 1 + 1 + 1 + 1 + 1 + 1 + 1 + 1 + 1 + 1 + 1 + 1) = False) ∧
    (∀ n : Nat, (n + 1 + 1 + 1 + 1 + 1 + 1 + 1 + 1 + 1 + 1 + 1 + 1 + 1 + 1 + 1 + 1 + 1 + 1 = n) = False) ∧
    (∀ n : Nat, (n = n + 1 + 1 + 1 + 1 + 1 + 1 + 1 + 1 + 1 + 1 + 1 + 1 + 1 + 1 + 1 + 1 + 1 + 1 + 1) = False) ∧
    (∀ n : Nat, (n + 1 + 1 + 1 + 1 + 1 + 1 + 1 + 1 + 1 + 1 + 1 + 1 + 1 + 1 + 1 + 1 + 1 + 1 + 1 = n) = False) ∧
    (∀ n : Nat, (n = n + 1 + 1 + 1 + 1 + 1 + 1 + 1 + 1 + 1 + 1 + 1 + 1 + 1 + 1 + 1 + 1 + 1 + 1 + 1 + 1) = False) ∧
    (∀ n : Nat, (n + 1 + 1 + 1 + 1 + 1 + 1 + 1 + 1 + 1 + 1 + 1 + 1 + 1 + 1 + 1 + 1 + 1 + 1 + 1 + 1 = n) = False) ∧
    (∀ n : Nat, (n = n + 1 + 1 + 1 + 1 + 1 + 1 + 1 + 1 + 1 + 1 + 1 + 1 + 1 + 1 + 1 + 1 + 1 + 1 + 1 + 1 + 1) = False) ∧
    (∀ n : Nat, (n + 1 + 1 + 1 + 1 + 1 + 1 + 1 + 1 + 1 + 1 + 1 + 1 + 1 + 1 + 1 + 1 + 1 + 1 + 1 + 1 + 1 = n) = False) ∧
    (∀ n : Nat, (n = n + 1 + 1 + 1 + 1 + 1 + 1 + 1 + 1 + 1 + 1 + 1 + 1 + 1 + 1 + 1 + 1 + 1 + 1 + 1 + 1 + 1 + 1) = False) ∧
    (∀ n : Nat, (n + 1 + 1 + 1 + 1 + 1 + 1 + 1 + 1 + 1 + 1 + 1 + 1 + 1 + 1 + 1 + 1 + 1 + 1 + 1 + 1 + 1 + 1 = n) = False) ∧
    (∀ n : Nat, (n = n + 1 + 1 + 1 + 1 + 1 + 1 + 1 + 1 + 1 + 1 + 1 + 1 + 1 + 1 + 1 + 1 + 1 + 1 + 1 + 1 + 1 + 1 + 1) = False) ∧
    (∀ n : Nat, (n + 1 + 1 + 1 + 1 + 1 + 1 + 1 + 1 + 1 + 1 + 1 + 1 + 1 + 1 + 1 + 1 + 1 + 1 + 1 + 1 + 1 + 1 + 1 = n) = False) ∧
    (∀ n : Nat, (n = n + 1 + 1 + 1 + 1 + 1 + 1 + 1 + 1 + 1 + 1 + 1 + 1 + 1 + 1 + 1 + 1 + 1 + 1 + 1 + 1 + 1 + 1 + 1 + 1) = False) ∧
    (∀ n : Nat, (n + 1 + 1 + 1 + 1 + 1 + 1 + 1 + 1 + 1 + 1 + 1 + 1 + 1 + 1 + 1 + 1 + 1 + 1 + 1 + 1 + 1 + 1 + 1 + 1 = n) = False) ∧
    (∀ n : Nat, (n = n + 1 + 1 + 1 + 1 + 1 + 1 + 1 + 1 + 1 + 1 + 1 + 1 + 1 + 1 + 1 + 1 + 1 + 1 + 1 + 1 + 1 + 1 + 1 + 1 + 1) = False) ∧
    (∀ n : Nat, (n + 1 + 1 + 1 + 1 + 1 + 1 + 1 + 1 + 1 + 1 + 1 + 1 + 1 + 1 + 1 + 1 + 1 + 1 + 1 + 1 + 1 + 1 + 1 + 1 + 1 = n) = False) ∧
    (∀ n : Nat, (n = n + 1 + 1 + 1 + 1 + 1 + 1 + 1 + 1 + 1 + 1 + 1 + 1 + 1 + 1 + 1 + 1 + 1 + 1 + 1 + 1 + 1 + 1 + 1 + 1 + 1 + 1) = False) ∧
    (∀ n : Nat, (n + 1 + 1 + 1 + 1 + 1 + 1 + 1 + 1 + 1 + 1 + 1 + 1 + 1 + 1 + 1 + 1 + 1 + 1 + 1 + 1 + 1 + 1 + 1 + 1 + 1 + 1 = n) = False) ∧
    (∀ n : Nat, (n = n + 1 + 1 + 1 + 1 + 1 + 1 + 1 + 1 + 1 + 1 + 1 + 1 + 1 + 1 + 1 + 1 + 1 + 1 + 1 + 1 + 1 + 1 + 1 + 1 + 1 + 1 + 1) = False) ∧
    (∀ n : Nat, (n + 1 + 1 + 1 + 1 + 1 + 1 + 1 + 1 + 1 + 1 + 1 + 1 + 1 + 1 + 1 + 1 + 1 + 1 + 1 + 1 + 1 + 1 + 1 + 1 + 1 + 1 + 1 = n) = False) ∧
    (∀ n : Nat, (n = n + 1 + 1 + 1 + 1 + 1 + 1 + 1 + 1 + 1 + 1 + 1 + 1 + 1 + 1 + 1 + 1 + 1 + 1 + 1 + 1 + 1 + 1 + 1 + 1 + 1 + 1 + 1 + 1) = False) ∧
    (∀ n : Nat, (n + 1 + 1 + 1 + 1 + 1 + 1 + 1 + 1 + 1 + 1 + 1 + 1 + 1 + 1 + 1 + 1 + 1 + 1 + 1 + 1 + 1 + 1 + 1 + 1 + 1 + 1 + 1 + 1 = n) = False) ∧
    (∀ n : Nat, (n = n + 1 + 1 + 1 + 1 + 1 + 1 + 1 + 1 + 1 + 1 + 1 + 1 + 1 + 1 + 1 + 1 + 1 + 1 + 1 + 1 + 1 + 1 + 1 + 1 + 1 + 1 + 1 + 1 + 1) = False) ∧
    (∀ n : Nat, (n + 1 + 1 + 1 + 1 + 1 + 1 + 1 + 1 + 1 + 1 + 1 + 1 + 1 + 1 + 1 + 1 + 1 + 1 + 1 + 1 + 1 + 1 + 1 + 1 + 1 + 1 + 1 + 1 + 1 = n) = False) ∧
    (∀ n : Nat, (n = n + 1 + 1 + 1 + 1 + 1 + 1 + 1 + 1 + 1 + 1 + 1 + 1 + 1 + 1 + 1 + 1 + 1 + 1 + 1 + 1 + 1 + 1 + 1 + 1 + 1 + 1 + 1 + 1 + 1 + 1) = False) ∧
    (∀ n : Nat, (n + 1 + 1 + 1 + 1 + 1 + 1 + 1 + 1 + 1 + 1 + 1 + 1 + 1 + 1 + 1 + 1 + 1 + 1 + 1 + 1 + 1 + 1 + 1 + 1 + 1 + 1 + 1 + 1 + 1 + 1 = n) = False) ∧
    (∀ n : Nat, (n = n + 1 + 1 + 1 + 1 + 1 + 1 + 1 + 1 + 1 + 1 + 1 + 1 + 1 + 1 + 1 + 1 + 1 + 1 + 1 + 1 + 1 + 1 + 1 + 1 + 1 + 1 + 1 + 1 + 1 + 1 + 1) = False) ∧
    (∀ n : Nat, (n + 1 + 1 + 1 + 1 + 1 + 1 + 1 + 1 + 1 + 1 + 1 + 1 + 1 + 1 + 1 + 1 + 1 + 1 + 1 + 1 + 1 + 1 + 1 + 1 + 1 + 1 + 1 + 1 + 1 + 1 + 1 = n) = False) ∧
    (∀ n : Nat, (n = n + 1 + 1 + 1 + 1 + 1 + 1 + 1 + 1 + 1 + 1 + 1 + 1 + 1 + 1 + 1 + 1 + 1 + 1 + 1 + 1 + 1 + 1 + 1 + 1 + 1 + 1 + 1 + 1 + 1 + 1 + 1 + 1) = False) ∧
    (∀ n : Nat, (n + 1 + 1 + 1 + 1 + 1 + 1 + 1 + 1 + 1 + 1 + 1 + 1 + 1 + 1 + 1 + 1 + 1 + 1 + 1 + 1 + 1 + 1 + 1 + 1 + 1 + 1 + 1 + 1 + 1 + 1 + 1 + 1 = n) = False) ∧
    (∀ n : Nat, (n = n + 1 + 1 + 1 + 1 + 1 + 1 + 1 + 1 + 1 + 1 + 1 + 1 + 1 + 1 + 1 + 1 + 1 + 1 + 1 + 1 + 1 + 1 + 1 + 1 + 1 + 1 + 1 + 1 + 1 + 1 + 1 + 1 + 1) = False) ∧
    (∀ n : Nat, (n + 1 + 1 + 1 + 1 + 1 + 1 + 1 + 1 + 1 + 1 + 1 + 1 + 1 + 1 + 1 + 1 + 1 + 1 + 1 + 1 + 1 + 1 + 1 + 1 + 1 + 1 + 1 + 1 + 1 + 1 + 1 + 1 + 1 = n) = False) ∧
    (∀ n : Nat, (n = n + 1 + 1 + 1 + 1 + 1 + 1 + 1 + 1 + 1 + 1 + 1 + 1 + 1 + 1 + 1 + 1 + 1 + 1 + 1 + 1 + 1 + 1 + 1 + 1 + 1 + 1 + 1 + 1 + 1 + 1 + 1 + 1 + 1 + 1) = False) ∧
    (∀ n : Nat, (n + 1 + 1 + 1 + 1 + 1 + 1 + 1 + 1 + 1 + 1 + 1 + 1 + 1 + 1 + 1 + 1 + 1 + 1 + 1 + 1 + 1 + 1 + 1 + 1 + 1 + 1 + 1 + 1 + 1 + 1 + 1 + 1 + 1 + 1 = n) = False) ∧
    (∀ n : Nat, (n = n + 1 + 1 + 1 + 1 + 1 + 1 + 1 + 1 + 1 + 1 + 1 + 1 + 1 + 1 + 1 + 1 + 1 + 1 + 1 + 1 + 1 + 1 + 1 + 1 + 1 + 1 + 1 + 1 + 1 + 1 + 1 + 1 + 1 + 1 + 1) = False) ∧
    (∀ n : Nat, (n + 1 + 1 + 1 + 1 + 1 + 1 + 1 + 1 + 1 + 1 + 1 + 1 + 1 + 1 + 1 + 1 + 1 + 1 + 1 + 1 + 1 + 1 + 1 + 1 + 1 + 1 + 1 + 1 + 1 + 1 + 1 + 1 + 1 + 1 + 1 = n) = False) ∧
    (∀ n : Nat, (n = n + 1 + 1 + 1 + 1 + 1 + 1 + 1 + 1 + 1 + 1 + 1 + 1 + 1 + 1 + 1 + 1 + 1 + 1 + 1 + 1 + 1 + 1 + 1 + 1 + 1 + 1 + 1 + 1 + 1 + 1 + 1 + 1 + 1 + 1 + 1 + 1) = False) ∧
    (∀ n : Nat, (n + 1 + 1 + 1 + 1 + 1 + 1 + 1 + 1 + 1 + 1 + 1 + 1 + 1 + 1 + 1 + 1 + 1 + 1 + 1 + 1 + 1 + 1 + 1 + 1 + 1 + 1 + 1 + 1 + 1 + 1 + 1 + 1 + 1 + 1 + 1 + 1 = n) = False) ∧
    (∀ n : Nat, (n = n + 1 + 1 + 1 + 1 + 1 + 1 + 1 + 1 + 1 + 1 + 1 + 1 + 1 + 1 + 1 + 1 + 1 + 1 + 1 + 1 + 1 + 1 + 1 + 1 + 1 + 1 + 1 + 1 + 1 + 1 + 1 + 1 + 1 + 1 + 1 + 1 + 1) = False) ∧
    (∀ n : Nat, (n + 1 + 1 + 1 + 1 + 1 + 1 + 1 + 1 + 1 + 1 + 1 + 1 + 1 + 1 + 1 + 1 + 1 + 1 + 1 + 1 + 1 + 1 + 1 + 1 + 1 + 1 + 1 + 1 + 1 + 1 + 1 + 1 + 1 + 1 + 1 + 1 + 1 = n) = False) ∧
    (∀ n : Nat, (n = n + 1 + 1 + 1 + 1 + 1 + 1 + 1 + 1 + 1 + 1 + 1 + 1 + 1 + 1 + 1 + 1 + 1 + 1 + 1 + 1 + 1 + 1 + 1 + 1 + 1 + 1 + 1 + 1 + 1 + 1 + 1 + 1 + 1 + 1 + 1 + 1 + 1 + 1) = False) ∧
    (∀ n : Nat, (n + 1 + 1 + 1 + 1 + 1 + 1 + 1 + 1 + 1 + 1 + 1 + 1 + 1 + 1 + 1 + 1 + 1 + 1 + 1 + 1 + 1 + 1 + 1 + 1 + 1 + 1 + 1 + 1 + 1 + 1 + 1 + 1 + 1 + 1 + 1 + 1 + 1 + 1 = n) = False) ∧
    (∀ n : Nat, (n = n + 1 + 1 + 1 + 1 + 1 + 1 + 1 + 1 + 1 + 1 + 1 + 1 + 1 + 1 + 1 + 1 + 1 + 1 + 1 + 1 + 1 + 1 + 1 + 1 + 1 + 1 + 1 + 1 + 1 + 1 + 1 + 1 + 1 + 1 + 1 + 1 + 1 + 1 + 1) = False) ∧
    (∀ n : Nat, (n + 1 + 1 + 1 + 1 + 1 + 1 + 1 + 1 + 1 + 1 + 1 + 1 + 1 + 1 + 1 + 1 + 1 + 1 + 1 + 1 + 1 + 1 + 1 + 1 + 1 + 1 + 1 + 1 + 1 + 1 + 1 + 1 + 1 + 1 + 1 + 1 + 1 + 1 + 1 = n) = False) ∧
    (∀ n : Nat, (n = n + 1 + 1 + 1 + 1 + 1 + 1 + 1 + 1 + 1 + 1 + 1 + 1 + 1 + 1 + 1 + 1 + 1 + 1 + 1 + 1 + 1 + 1 + 1 + 1 + 1 + 1 + 1 + 1 + 1 + 1 + 1 + 1 + 1 + 1 + 1 + 1 + 1 + 1 + 1 + 1) = False) ∧
    (∀ n : Nat, (n + 1 + 1 + 1 + 1 + 1 + 1 + 1 + 1 + 1 + 1 + 1 + 1 + 1 + 1 + 1 + 1 + 1 + 1 + 1 + 1 + 1 + 1 + 1 + 1 + 1 + 1 + 1 + 1 + 1 + 1 + 1 + 1 + 1 + 1 + 1 + 1 + 1 + 1 + 1 + 1 = n) = False) := by
  refine ⟨?_, ?_, ?_, ?_, ?_, ?_, ?_, ?_, ?_, ?_, ?_, ?_, ?_, ?_, ?_, ?_, ?_, ?_, ?_, ?_, ?_, ?_, ?_, ?_, ?_, ?_, ?_, ?_, ?_, ?_, ?_, ?_, ?_, ?_, ?_, ?_, ?_, ?_, ?_, ?_, ?_, ?_, ?_, ?_, ?_, ?_, ?_, ?_, ?_, ?_, ?_, ?_, ?_, ?_, ?_, ?_, ?_, ?_, ?_, ?_, ?_, ?_, ?_, ?_, ?_, ?_, ?_, ?_, ?_, ?_, ?_, ?_, ?_, ?_, ?_, ?_, ?_, ?_, ?_, ?_⟩ <;> intro n <;> exact eq_false (by omega)
end Go.Al

/- A call that comes up alone in a region that draws. -/
namespace Go.Al
theorem ASoloK.strict {P : Program} {o : Oper} {st : AS} {c : Call} {f : Operand} {g : FuncId} {args' : List AV} {r : AV} {K : AS → Prop} (hc : callsF o = some (c, f)) (hf : st.ev f = .fn g []) (h : PCalls P g args' r) (hs : SeesL st.H false (c.args.toList.map st.ev) args')
    (hk : K (st.put o.dst r)) : ASoloK P o st K := ⟨_, by unfold AStep; rw [hc]; exact ACallK.strict hf h hs rfl, hk⟩
theorem ASoloK.flat {P : Program} {o : Oper} {st : AS} {c : Call} {f : Operand} {g : FuncId} {args' : List AV} {r : AV} {K : AS → Prop} (hc : callsF o = some (c, f)) (hf : st.ev f = .fn g []) (h : PCalls P g args' r) (hs : SeesL st.H true (c.args.toList.map st.ev) args')
    (hr : flatV r = true) (hk : K (st.put o.dst r)) : ASoloK P o st K := ⟨_, by unfold AStep; rw [hc]; exact ACallK.flat hf h hs hr rfl, hk⟩
theorem ASoloK.step {P : Program} {o : Oper} {st : AS} {r : AV × AH × Nat} {K : AS → Prop} (hc : callsF o = none) (h : aop P st o.op = some r) (hk : K ((AS.mk st.t r.2.1 r.2.2).put o.dst r.1)) : ASoloK P o st K :=
  ⟨_, by unfold AStep; rw [hc]; simp only [h], hk⟩
end Go.Al

/- A plan's operations, taken one by one. -/
namespace Go.Al
/-- Operations by their places among those that are left. -/
def pickB : List Oper → List (Nat × Bool) → List (Oper × Bool)
  | _, [] => []
  | [], _ :: _ => []
  | o :: l, (0, b) :: ps => (o, b) :: pickB l ps
  | o :: l, (k + 1, b) :: ps => match l[k]? with
    | some x => (x, b) :: pickB (o :: l.eraseIdx k) ps
    | none => []
theorem pickB_nil {l : List Oper} : pickB l [] = [] := by cases l <;> rfl
theorem pickB_zero {o : Oper} {l : List Oper} {b : Bool} {ps : List (Nat × Bool)} : pickB (o :: l) ((0, b) :: ps) = (o, b) :: pickB l ps := rfl
theorem pickB_succ {o x : Oper} {l : List Oper} {k : Nat} {b : Bool} {ps : List (Nat × Bool)} : pickB (o :: l) ((k + 1, b) :: ps) = (match l[k]? with
    | some x => (x, b) :: pickB (o :: l.eraseIdx k) ps
    | none => []) := rfl
theorem ADraw.planR {P : Program} {N id : Nat} {ops : Array Oper} {Q : Exit → AS → Prop} {st : AS} (S : List Nat) (plan rel : List (Nat × Bool)) (hm : P.follows .mixedOrders = true)
    (hc : (dstsOk N ops.toList && decide (plan.length = ops.size) && (match planB ops (fun i => S.contains i) (ancs ops.toList []) plan (Array.replicate ops.size false) with | some l => (Region.ready .any ops l).isEmpty | none => false)) = true)
    (hE : (plan.map fun p => (ops.getD p.1 default, S.contains p.1)) = pickB ops.toList rel)
    (h : AOpsDB P (ops.toList.map (·.dst)) (Q .normal) (pickB ops.toList rel) st) : ADraw P N id ops Q st :=
  ADraw.planS S plan hm hc (by rw [hE]; exact h)
end Go.Al

/- A place in an array that a pointer leads to. -/
namespace Go.Al
theorem AStepX.arrayAddr {P : Program} {o : Oper} {st : AS} {t : TypeId} {x ix : Operand} {p : Nat × TypeId} {T : Ty} {id z i off : Nat} {kd : IntKind} {k : Int} {K : AS → Prop} (ho : o.op = .indexAddr t x ix) (ht : arOf P t = some p) (hT : tyOf P p.2 = some T)
    (hx : st.ev x = .ptr id z i off) (hi : st.ev ix = .sc (.int kd k)) (h0 : 0 ≤ k) (h1 : k < p.1) (hk : K (st.put o.dst (.ptr id z i (off + k.toNat * T.size)))) : AStepX P o st K := by
  intro N a w B0 base β hinv
  have hu := arOf_some ht
  have hxr := hinv.ev x
  rw [hx] at hxr
  simp only [RepV] at hxr
  have hir := hinv.ev ix
  rw [hi] at hir
  simp only [RepV] at hir
  refine ⟨_, _, _, Done.quiet hinv (u := .pointer (some ⟨β id, i * z + (off + k.toNat * T.size), none⟩)) ?_ (by simp only [RepV]; exact ⟨hxr.1, trivial⟩), hk⟩
  simp [execOp, ho, Instr.indexAt, hir, asIntOf, run_underlying hu, hxr.2, Instr.sureAddr, h0, h1, run_sizeOf_ hT, Addr.add_lit, Nat.add_assoc]
end Go.Al

/- Nil's capacity; an append of many zeros to nil. -/
namespace Go.Al
section
variable {P : Program} {N : Nat} {a : Act} {w : World} {B0 : Nat → Nat → Prop} {base : Nat} {β : Nat → Nat} {st : AS}
theorem AStepX.cap_nil {o : Oper} {c : Call} {x : Operand} {t e : Nat} {K : AS → Prop} (ho : o.op = .call c) (hc : c.callee = .builtin .cap) (ha : c.args = #[x]) (ht : c.argTypes = #[t])
    (hs : slOf P t = some e) (hx : st.ev x = .sc (.slice none 0 0)) (hk : K (st.put o.dst (.sc (.int .i64 0)))) : AStepX P o st K := by
  intro N a w B0 base β hi
  have hu := slOf_some hs
  have hr := hi.ev x
  rw [hx] at hr
  simp only [RepV] at hr
  refine ⟨_, _, _, Done.quiet hi (u := .int .i64 0) ?_ (by simp only [RepV]), hk⟩
  simp only [execOp, ho, resolve, hc, invoke, builtin, ha, ht, Sem.run_bind, Sem.run_pure, Result.andThen_ok, List.map_toArray, List.map_cons, List.map_nil, hr]
  simp [Builtin.cap_, run_underlying hu, goInt]
theorem run_append_zeros_nil (t u ty e : TypeId) (i : TypeInfo) (zv : Value) (ht : P.underlying t = some (.slice e)) (hu : P.underlying u = some (.int .i64)) (hi : P.info? e = some i) (hz : i.zero = some zv)
    (l : Nat) (h0 : 0 < l) (hp : 0 < i.size) (hb1 : (l : Int) ≤ 1099511627776) (hb2 : l * i.bytes ≤ 140737488355328) :
    (Builtin.append_ #[t, u] ty #[.slice none 0 0, .int .i64 l]).run P w =
      .ok (.slice (some ⟨w.heap.size, 0, none⟩) l (grownCap w l 0 e)) (w.drew.alloc (.cells (Builtin.zeroCells zv.cells l ++ Builtin.zeroCells zv.cells (grownCap w l 0 e - l)) e)) := by
  have hw := wrap_in (n := (l : Int)) (by omega) hb1
  have hn : ¬ l ≤ 0 := by omega
  have h1 : ¬ ((l : Int) < 0) := by omega
  have h2 : ¬ (281474976710656 < (l : Int) * i.bytes) := by
    have : ((l * i.bytes : Nat) : Int) = (l : Int) * i.bytes := Int.natCast_mul _ _
    omega
  have h3 : ¬ (9223372036854775807 < (l : Int)) := by omega
  have h4 := growslice_fits (need := l) (old := 0) (bytes := i.bytes) h0 hb2
  have h4' : ¬ (281474976710656 < Builtin.nextslicecap l 0 * i.bytes) := by omega
  have h5 : l ≠ 0 := by omega
  have h6 : i.size ≠ 0 := by omega
  simp [Builtin.append_, run_underlying ht, run_underlying hu, sizeOf, typeInfo, zeroValue, hi, hz, asInt, asIntOf, hw, hn, h1, h2, h3, h4', h5, h6, Question.forced, Builtin.firstCells, newRow, grownCap]
  intro h
  exact absurd h (Nat.mul_ne_zero h5 h6)
theorem AStepX.append_zeros_nil {o : Oper} {c : Call} {x y : Operand} {t u e z l : Nat} {T : Ty} {zs : List Value} {K : AS → Prop} (ho : o.op = .call c) (hc : c.callee = .builtin .append) (ha : c.args = #[x, y]) (ht : c.argTypes = #[t, u])
    (hs : slOf P t = some e) (hu : inOf P u = some .i64) (hT : tyOf P e = some T) (hz : T.size = z) (hz0 : 0 < z) (hzs : T.zero = some zs) (hzl : zs.length = z) (hone : zs.all (·.oneCell') = true)
    (hx : st.ev x = .sc (.slice none 0 0)) (hy : st.ev y = .sc (.int .i64 (l : Int))) (h0 : 0 < l) (hb1 : (l : Int) ≤ 1099511627776) (hb2 : l * T.bytes ≤ 140737488355328)
    (hk : K ((AS.mk st.t (upd st.H st.n (some (.obj e z (List.replicate l (zs.map AV.sc)) false))) (st.n + 1)).put o.dst (.sl st.n z 0 l))) : AStepX P o st K := by
  intro N a w B0 base β hi
  have hut := slOf_some hs
  have huu : P.underlying u = some (.int .i64) := by
    unfold inOf at hu
    split at hu
    · rename_i h; cases hu; exact h
    · cases hu
  obtain ⟨i, d, g1, g2, g3, g4, g5, g6⟩ := tyOf_some hT
  have hr := hi.ev x
  rw [hx] at hr
  simp only [RepV] at hr
  have hr2 := hi.ev y
  rw [hy] at hr2
  simp only [RepV] at hr2
  rw [hzs] at g6
  cases hiz : i.zero with
  | none => simp [hiz] at g6
  | some zv =>
    have hzz : zv.cells.toList = zs := by simpa [hiz] using g6
    have hzv : zv.cells.size = z := by rw [← Array.length_toList, hzz, hzl]
    have hzc : (Builtin.zeroCells zv.cells l).toList = (List.replicate l zs).flatten := by
      have := zero_cells zv.cells z hzv hz0 l
      rw [hzz] at this
      rw [← hzv] at this
      exact this
    have hrep : RepC w (Bad B0 β st.H) β st.n (List.replicate l (zs.map AV.sc)).flatten (Builtin.zeroCells zv.cells l).toList := by
      rw [hzc]; exact RepC_replicate (RepC_sc hone) _
    have hys : ∀ y ∈ List.replicate l (zs.map AV.sc), y.length = z := fun y hy => by rw [List.eq_of_mem_replicate hy]; simp [hzl]
    have hrun := run_append_zeros_nil (P := P) (w := w) t u o.type e i zv hut huu g1 hiz l h0 (by omega) hb1 (by rw [g4]; exact hb2)
    have hge := grownCap_ge w l 0 e
    have hle := grownCap_le_maxLen w l 0 e (by simp only [maxLen]; omega)
    generalize grownCap w l 0 e = gcap at hrun hge hle
    have hsz : (Builtin.zeroCells zv.cells l ++ Builtin.zeroCells zv.cells (gcap - l)).size = gcap * z := by
      rw [Array.size_append, size_zeroCells, size_zeroCells, hzv, ← Nat.add_mul]; congr 1; omega
    have htk : (Builtin.zeroCells zv.cells l ++ Builtin.zeroCells zv.cells (gcap - l)).toList.take ((List.replicate l (zs.map AV.sc)).length * z) = (Builtin.zeroCells zv.cells l).toList := by
      rw [Array.toList_append, List.length_replicate]
      have : l * z = (Builtin.zeroCells zv.cells l).toList.length := by rw [Array.length_toList, size_zeroCells, hzv]
      rw [this]
      exact List.take_left
    obtain ⟨m1, m2⟩ := hi.heap.alloc_cap (w' := w.drew.alloc (.cells (Builtin.zeroCells zv.cells l ++ Builtin.zeroCells zv.cells (gcap - l)) e)) (s := false) (es := List.replicate l (zs.map AV.sc)) hi.b0 hi.base rfl rfl rfl rfl
      (by rw [htk]; exact hrep) hys (by rw [List.length_replicate]; exact hge) hle hsz
    refine ⟨_, _, _, ⟨_, _, _, .inl ?_, m1, m2, sl_new (w := w) (w' := w.drew.alloc (.cells (Builtin.zeroCells zv.cells l ++ Builtin.zeroCells zv.cells (gcap - l)) e)) rfl hsz hge hle⟩, hk⟩
    simp only [execOp, ho, resolve, hc, invoke, builtin, ha, ht, Sem.run_bind, Sem.run_pure, Result.andThen_ok, List.map_toArray, List.map_cons, List.map_nil, hr, hr2, hrun]
/-- Less told of an open object, ahead of an operation. -/
theorem AStepX.shrink {o : Oper} {id t z k : Nat} {es : List (List AV)} {K : AS → Prop} (hid : st.H id = some (.obj t z es false)) (hk : AStepX P o { st with H := upd st.H id (some (.obj t z (es.take k) false)) } K) : AStepX P o st K := by
  intro N a w B0 base β hi
  obtain ⟨s1, s2⟩ := hi.heap.shrink hi.b0 hid k
  have hi' : Inv N a w B0 base β { st with H := upd st.H id (some (.obj t z (es.take k) false)) } := ⟨hi.size, hi.defers, fun i => (hi.tmps i).mono s2.pres s2.agree s2.le, s1, hi.b0, hi.base⟩
  obtain ⟨v, H', n', ⟨w', β', u, d1, d2, d3, d4⟩, hK⟩ := hk N a w B0 base β hi'
  exact ⟨v, H', n', ⟨w', β', u, d1, d2, s2.trans d3, d4⟩, hK⟩
end
end Go.Al

/- A region that draws, told order by order where it must be. -/
namespace Go.Al
/-- Operations in turn; behind some, one of two ways on. -/
inductive FT where
  | leaf (p : List (Nat × Bool))
  | fork (p : List (Nat × Bool)) (a b : FT)
def FT.first : FT → Option Nat
  | .leaf ((i, _) :: _) => some i
  | .fork ((i, _) :: _) _ _ => some i
  | _ => none
section
variable {P : Program} {N : Nat} {ops : Array Oper}
def pickP (S : List Nat) (ops : Array Oper) (p : List (Nat × Bool)) : List (Oper × Bool) := p.map fun x => (ops.getD x.1 default, S.contains x.1)
def ftK (S : List Nat) (P : Program) (G : List (Option Nat)) (K : AS → Prop) (ops : Array Oper) : FT → AS → Prop
  | .leaf p, s => AOpsDB P G K (pickP S ops p) s
  | .fork p a b, s => AOpsDB P G (fun s' => ftK S P G K ops a s' ∧ ftK S P G K ops b s') (pickP S ops p) s
def forkOK (ops : Array Oper) (l : Array Bool) (a b : FT) : Bool := !(Region.ready .any ops l).isEmpty && (Region.ready .any ops l).all fun i => a.first == some i || b.first == some i
def chB (S : List Nat) (ops : Array Oper) (A : List (List Nat)) : FT → Array Bool → Nat → Bool
  | .leaf ((i, _) :: r), l, n => r.length == n && (match planB ops (fun i => S.contains i) A r (l.setIfInBounds i true) with | some l2 => (Region.ready .any ops l2).isEmpty | none => false)
  | .fork ((i, _) :: r) a b, l, n => (match planB ops (fun i => S.contains i) A r (l.setIfInBounds i true) with | some l2 => decide (r.length < n) && forkOK ops l2 a b && chB S ops A a l2 (n - r.length - 1) && chB S ops A b l2 (n - r.length - 1) | none => false)
  | _, _, _ => false
theorem ch_sound {S : List Nat} {A : List (List Nat)} (hA : ∀ j, ∀ k ∈ A.getD j [], Anc ops j k) {K : AS → Prop} : ∀ (t : FT) (l : Array Bool) (n : Nat) (st : AS) (i : Nat), Closed ops l → chB S ops A t l n = true → t.first = some i → i ∈ Region.ready .any ops l →
    ftK S P (ops.toList.map (·.dst)) K ops t st → ∃ o st', ops[i]? = some o ∧ DStepX P (ops.toList.map (·.dst)) (S.contains i) o st st' ∧ DAny P ops (fun i => S.contains i) K n (l.setIfInBounds i true) st'
  | .leaf [], l, n, st, i, _, hc, _, _, _ => by simp [chB] at hc
  | .fork [] a b, l, n, st, i, _, hc, _, _, _ => by simp [chB] at hc
  | .leaf ((j, x) :: r), l, n, st, i, hcl, hc, hf, hi, hk => by
    simp only [FT.first, Option.some.injEq] at hf
    subst hf
    simp only [chB, Bool.and_eq_true, beq_iff_eq] at hc
    obtain ⟨hn, hc⟩ := hc
    split at hc
    · rename_i l2 hl2
      simp only [ftK, pickP, List.map_cons] at hk
      rw [AOpsDB_eq] at hk
      obtain ⟨st1, hs1, hrest⟩ := AOpsD_step hk
      obtain ⟨_, oi, hoi, _⟩ := mem_ready.1 hi
      have hget : ops.getD j default = oi := by simp [Array.getD_eq_getD_getElem?, hoi]
      rw [hget] at hs1
      refine ⟨oi, st1, hoi, hs1, ?_⟩
      have := plan_sound (P := P) (S := fun i => S.contains i) (K := K) hA (listed' := l2) (f' := 0) (K' := K) (fun s hs => by
        simp only [DAny]
        intro _
        exact ⟨by simpa using hc, hs⟩) r _ st1 (hcl.set hi) hl2 hrest
      rw [Nat.add_zero, hn] at this
      exact this
    · cases hc
  | .fork ((j, x) :: r) a b, l, n, st, i, hcl, hc, hf, hi, hk => by
    simp only [FT.first, Option.some.injEq] at hf
    subst hf
    simp only [chB] at hc
    split at hc
    · rename_i l2 hl2
      simp only [Bool.and_eq_true, decide_eq_true_eq] at hc
      obtain ⟨⟨⟨hn, hfo⟩, ha⟩, hb⟩ := hc
      simp only [ftK, pickP, List.map_cons] at hk
      rw [AOpsDB_eq] at hk
      obtain ⟨st1, hs1, hrest⟩ := AOpsD_step hk
      obtain ⟨_, oi, hoi, _⟩ := mem_ready.1 hi
      have hget : ops.getD j default = oi := by simp [Array.getD_eq_getD_getElem?, hoi]
      rw [hget] at hs1
      refine ⟨oi, st1, hoi, hs1, ?_⟩
      have hcl2 := planB_closed r _ l2 (hcl.set hi) hl2
      simp only [forkOK, Bool.and_eq_true, Bool.not_eq_true', List.all_eq_true, Bool.or_eq_true, beq_iff_eq] at hfo
      have := plan_sound (P := P) (S := fun i => S.contains i) (K := K) hA (listed' := l2) (f' := n - r.length) (K' := fun s' => ftK S P (ops.toList.map (·.dst)) K ops a s' ∧ ftK S P (ops.toList.map (·.dst)) K ops b s') (fun s hs => by
        obtain ⟨m, hm⟩ : ∃ m, n - r.length = m + 1 := ⟨n - r.length - 1, by omega⟩
        rw [hm]
        rw [show n - r.length - 1 = m by omega] at ha hb
        rw [DAny]
        intro _
        refine ⟨fun e => (by rw [e] at hfo; cases hfo.1), fun k hk => ?_⟩
        rcases hfo.2 k hk with h | h
        · exact ch_sound hA a l2 m s k hcl2 ha h hk hs.1
        · exact ch_sound hA b l2 m s k hcl2 hb h hk hs.2) r _ st1 (hcl.set hi) hl2 hrest
      rw [show r.length + (n - r.length) = n by omega] at this
      exact this
    · cases hc
theorem ADraw.tree {id : Nat} {Q : Exit → AS → Prop} {st : AS} (S : List Nat) (p0 : List (Nat × Bool)) (n : Nat) (a b : FT) (hm : P.follows .mixedOrders = true)
    (hc : (dstsOk N ops.toList && decide (p0.length + (n + 1) = ops.size) && (match planB ops (fun i => S.contains i) (ancs ops.toList []) p0 (Array.replicate ops.size false) with | some l => forkOK ops l a b && chB S ops (ancs ops.toList []) a l n && chB S ops (ancs ops.toList []) b l n | none => false)) = true)
    (h : AOpsDB P (ops.toList.map (·.dst)) (fun s' => ftK S P (ops.toList.map (·.dst)) (Q .normal) ops a s' ∧ ftK S P (ops.toList.map (·.dst)) (Q .normal) ops b s') (pickP S ops p0) st) : ADraw P N id ops Q st := by
  simp only [Bool.and_eq_true, decide_eq_true_eq] at hc
  obtain ⟨⟨h1, h2⟩, h3⟩ := hc
  split at h3
  · rename_i l hl
    simp only [Bool.and_eq_true] at h3
    obtain ⟨⟨hfo, ha⟩, hb⟩ := h3
    refine ADraw.of_any (S := fun i => S.contains i) hm h1 ?_
    have hA := ancs_ok (ops := ops) ops.toList [] (fun i => by simp) (fun j k hk => by simp at hk)
    have hcl := planB_closed p0 _ l Closed.none hl
    simp only [forkOK, Bool.and_eq_true, Bool.not_eq_true', List.all_eq_true, Bool.or_eq_true, beq_iff_eq] at hfo
    have := plan_sound (P := P) (S := fun i => S.contains i) (K := Q .normal) hA (listed' := l) (f' := n + 1) (K' := fun s' => ftK S P (ops.toList.map (·.dst)) (Q .normal) ops a s' ∧ ftK S P (ops.toList.map (·.dst)) (Q .normal) ops b s') (fun s hs => by
      rw [DAny]
      intro _
      refine ⟨fun e => (by rw [e] at hfo; cases hfo.1), fun k hk => ?_⟩
      rcases hfo.2 k hk with h | h
      · exact ch_sound hA a l n s k hcl ha h hk hs.1
      · exact ch_sound hA b l n s k hcl hb h hk hs.2) p0 _ st Closed.none hl (by rw [← AOpsDB_eq]; exact h)
    rw [h2] at this
    exact this
  · cases h3
end
end Go.Al

/- Two structs told apart; a slice cut with its capacity. -/
namespace Go.Al
section
variable {P : Program} {N : Nat} {a : Act} {w : World} {B0 : Nat → Nat → Prop} {base : Nat} {β : Nat → Nat} {st : AS}
def kindV : Value → Option (Option IntKind)
  | .int k _ => some (some k)
  | .bool _ => some none
  | _ => none
def sameV : Value → Value → Bool
  | .int _ a, .int _ b => decide (a = b)
  | .bool a, .bool b => a == b
  | _, _ => false
def sameSc : List Value → List Value → Bool
  | [], [] => true
  | a :: as, b :: bs => sameV a b && sameSc as bs
  | _, _ => false
def shapeOk (P : Program) : List Field → Nat → List (Option IntKind) → Bool
  | [], _, [] => true
  | f :: fs, i, k :: ks => f.name != "_" && decide (f.offset = i) && (match P.underlying f.type, k with | some (.int _), some _ => true | some .bool, none => true | _, _ => false) && shapeOk P fs (i + 1) ks
  | _, _, _ => false
def eqSt (P : Program) (t : TypeId) (ks : List (Option IntKind)) : Bool := match P.underlying t with
  | some (.struct fs) => !P.stoodInHeld t && !P.eqGuardType P.depth t && shapeOk P fs.toList 0 ks
  | _ => false
def scs : List AV → Option (List Value)
  | [] => some []
  | .sc u :: r => (scs r).map (u :: ·)
  | _ :: _ => none
theorem scs_some : ∀ {cs : List AV} {xs : List Value}, scs cs = some xs → cs = xs.map AV.sc
  | [], xs, h => by simp only [scs, Option.some.injEq] at h; subst h; rfl
  | c :: r, xs, h => by
    cases c <;> simp only [scs] at h <;> try cases h
    simp only [Option.map_eq_some_iff] at h
    obtain ⟨ys, h1, rfl⟩ := h
    rw [scs_some h1]
    rfl
theorem RepC_sc_eq {B : Nat → Nat → Prop} {n : Nat} : ∀ {xs vs : List Value}, RepC w B β n (xs.map AV.sc) vs → vs = xs
  | [], vs, h => by simpa [RepC] using h
  | x :: xs, vs, h => by
    simp only [List.map_cons, RepC, RepV] at h
    obtain ⟨u, us, rfl, rfl, _, h⟩ := h
    rw [RepC_sc_eq h]
theorem eqFields_run (d : Nat) (w : World) : ∀ (fs : List Field) (ks : List (Option IntKind)) (pre xs pre' ys : List Value), shapeOk P fs pre.length ks = true → pre'.length = pre.length → xs.map kindV = ks.map some → ys.map kindV = ks.map some →
    (Op.eqFields (d + 1) (pre ++ xs).toArray (pre' ++ ys).toArray fs).run P w = .ok (sameSc xs ys) w
  | [], ks, pre, xs, pre', ys, h, hl, hx, hy => by
    cases ks with
    | cons k ks => simp [shapeOk] at h
    | nil =>
      simp only [List.map_nil, List.map_eq_nil_iff] at hx hy
      subst hx; subst hy
      simp [Op.eqFields, sameSc]
  | f :: fs, ks, pre, xs, pre', ys, h, hl, hx, hy => by
    cases ks with
    | nil => simp [shapeOk] at h
    | cons k ks =>
      simp only [shapeOk, Bool.and_eq_true, decide_eq_true_eq] at h
      obtain ⟨⟨⟨h1, h2⟩, h3⟩, h4⟩ := h
      have h1 : f.name ≠ "_" := by simpa using h1
      cases xs with
      | nil => simp at hx
      | cons x xs =>
        cases ys with
        | nil => simp at hy
        | cons y ys =>
          simp only [List.map_cons, List.cons.injEq] at hx hy
          have hagg : (isAgg f.type).run P w = .ok false w := by
            simp only [isAgg, Sem.run_bind]
            split at h3 <;> rename_i hu <;> first | (rw [run_underlying hu]; rfl) | cases h3
          have p1 : (part f.type (pre ++ x :: xs).toArray f.offset).run P w = .ok x w := by
            have : (pre ++ x :: xs).toArray[f.offset]? = some x := by rw [h2]; simp
            simp [part, hagg, this]
          have p2 : (part f.type (pre' ++ y :: ys).toArray f.offset).run P w = .ok y w := by
            have : (pre' ++ y :: ys).toArray[f.offset]? = some y := by rw [h2, ← hl]; simp
            simp [part, hagg, this]
          have e : (Op.equalIn (d + 1) f.type x y).run P w = .ok (sameV x y) w := by
            split at h3
            · rename_i k0 k1 hu
              have hx1 := hx.1
              have hy1 := hy.1
              cases x <;> simp [kindV] at hx1
              cases y <;> simp [kindV] at hy1
              subst hx1; subst hy1
              rw [run_equalIn_int w d f.type _ _ _ _ hu]
              congr 1
            · rename_i hu
              have hx1 := hx.1
              have hy1 := hy.1
              cases x <;> simp [kindV] at hx1
              cases y <;> simp [kindV] at hy1
              rw [run_equalIn_bool' w d f.type _ _ hu]
              congr 1
            · cases h3
          have hrec := eqFields_run d w fs ks (pre ++ [x]) xs (pre' ++ [y]) ys (by simpa using h4) (by simp [hl]) hx.2 hy.2
          simp only [List.append_assoc, List.singleton_append] at hrec
          simp only [Op.eqFields, h1, if_true, ne_eq, not_false_eq_true, Sem.run_bind, p1, p2, e, Result.andThen_ok]
          simp only [sameSc]
          cases sameV x y
          · simp
          · simpa using hrec
theorem run_eq_st {t : TypeId} {ks : List (Option IntKind)} {xs ys : List Value} (h : eqSt P t ks = true) (hx : xs.map kindV = ks.map some) (hy : ys.map kindV = ks.map some) (w : World) :
    (Op.equalIn 10000 t (.agg xs.toArray) (.agg ys.toArray)).run P w = .ok (sameSc xs ys) w ∧ P.eqGuardType P.depth t = false := by
  unfold eqSt at h
  cases hu : P.underlying t with
  | none => rw [hu] at h; simp at h
  | some u =>
    rw [hu] at h
    cases u with
    | struct fs =>
      simp only [Bool.and_eq_true] at h
      obtain ⟨⟨h1, h2⟩, h3⟩ := h
      have hfs : P.fieldsOf t = fs := by simp [Program.fieldsOf, hu]
      refine ⟨?_, by simpa using h2⟩
      rw [run_equalIn_struct w 9999 t _ _ (by rw [hfs]; exact hu) (by simpa using h1), hfs]
      exact eqFields_run (P := P) 9998 w fs.toList ks [] xs [] ys h3 rfl hx hy
    | _ => simp at h
/-- Two structs of numbers. -/
theorem AStepX.eqS {o : Oper} {t t' : TypeId} {x y : Operand} {cx cy : List AV} {xs ys : List Value} {K : AS → Prop} (ks : List (Option IntKind)) (ho : o.op = .binOp .eql t x y t') (hx : st.ev x = .agg cx) (hy : st.ev y = .agg cy)
    (sx : scs cx = some xs) (sy : scs cy = some ys) (hk : eqSt P t ks = true) (kx : xs.map kindV = ks.map some) (ky : ys.map kindV = ks.map some) (hK : K (st.put o.dst (.sc (.bool (sameSc xs ys))))) : AStepX P o st K := by
  intro N a w B0 base β hi
  have hr := hi.ev x
  rw [hx, scs_some sx] at hr
  simp only [RepV] at hr
  obtain ⟨vs, r1, r2⟩ := hr
  obtain rfl := RepC_sc_eq r2
  have hr' := hi.ev y
  rw [hy, scs_some sy] at hr'
  simp only [RepV] at hr'
  obtain ⟨us, q1, q2⟩ := hr'
  obtain rfl := RepC_sc_eq q2
  obtain ⟨e1, e2⟩ := run_eq_st hk kx ky w
  refine ⟨_, _, _, Done.quiet hi (u := .bool (sameSc vs us)) ?_ (by simp only [RepV]), hK⟩
  simp only [execOp, ho, r1, q1, Sem.run_bind, run_eqGuard_agg w .eql t x y _ _ e2, Result.andThen_ok, run_eql_struct, e1, Sem.run_pure]
theorem AStepX.neS {o : Oper} {t t' : TypeId} {x y : Operand} {cx cy : List AV} {xs ys : List Value} {K : AS → Prop} (ks : List (Option IntKind)) (ho : o.op = .binOp .neq t x y t') (hx : st.ev x = .agg cx) (hy : st.ev y = .agg cy)
    (sx : scs cx = some xs) (sy : scs cy = some ys) (hk : eqSt P t ks = true) (kx : xs.map kindV = ks.map some) (ky : ys.map kindV = ks.map some) (hK : K (st.put o.dst (.sc (.bool (!sameSc xs ys))))) : AStepX P o st K := by
  intro N a w B0 base β hi
  have hr := hi.ev x
  rw [hx, scs_some sx] at hr
  simp only [RepV] at hr
  obtain ⟨vs, r1, r2⟩ := hr
  obtain rfl := RepC_sc_eq r2
  have hr' := hi.ev y
  rw [hy, scs_some sy] at hr'
  simp only [RepV] at hr'
  obtain ⟨us, q1, q2⟩ := hr'
  obtain rfl := RepC_sc_eq q2
  obtain ⟨e1, e2⟩ := run_eq_st hk kx ky w
  refine ⟨_, _, _, Done.quiet hi (u := .bool (!sameSc vs us)) ?_ (by simp only [RepV]), hK⟩
  simp only [execOp, ho, r1, q1, Sem.run_bind, run_eqGuard_agg w .neq t x y _ _ e2, Result.andThen_ok, run_neq_struct, e1, Sem.run_pure]
/-- A begin of a slice, of no more capacity. -/
theorem AStepX.slice3 {o : Oper} {x y z' : Operand} {t e id z m : Nat} {q : Int} {T : Ty} {K : AS → Prop} (ho : o.op = .slice t x none (some y) (some z'))
    (hs : slOf P t = some e) (hT : tyOf P e = some T) (hz : T.size = z) (hx : st.ev x = .sl id z 0 m) (hy : (st.ev y).int? = some q) (hz' : (st.ev z').int? = some q) (h0 : 0 ≤ q) (h1 : q ≤ m)
    (hk : K (st.put o.dst (.sl id z 0 q.toNat))) : AStepX P o st K := by
  intro N a w B0 base β hi
  have hu := slOf_some hs
  have hr := hi.ev x
  rw [hx] at hr
  simp only [RepV] at hr
  obtain ⟨r1, c, off, r2, r3, r4, r5, r6⟩ := hr
  have hoff : off = 0 := by simpa using r4 (.inr trivial)
  subst hoff
  have b1 : ∀ (Y : Nat) (code : BoundsCode), q ≤ Y → (Instr.sliceBound (a.eval y) Y code).run P w = .ok q.toNat w := fun Y code h => run_bound (d := 0) hi hy h0 h
  have b2 : ∀ (Y : Nat) (code : BoundsCode), q ≤ Y → (Instr.sliceBound (a.eval z') Y code).run P w = .ok q.toNat w := fun Y code h => run_bound (d := 0) hi hz' h0 h
  refine ⟨_, _, _, Done.quiet hi (u := .slice (some ⟨β id, 0, none⟩) q.toNat q.toNat) ?_ ?_, hk⟩
  · have e1 : (Instr.slice t (.slice (some ⟨β id, 0, none⟩) m c) none (some (a.eval y)) (some (a.eval z'))).run P w = .ok (.slice (some ⟨β id, 0, none⟩) q.toNat q.toNat) w := by
      simp [Instr.slice, Instr.sliceBounds, run_underlying hu, b2 c _ (by omega), b1 q.toNat _ (by omega), run_sizeOf_ hT, Addr.add_lit]
    simp only [execOp, ho, Instr.sliceAt, Option.map_none, Option.map_some, Sem.run_bind, run_underlying hu, Result.andThen_ok, r2, e1, Sem.run_pure]
  · simp only [RepV]
    refine ⟨r1, q.toNat, 0, rfl, Nat.le_refl _, by simp, by omega, fun j hj => ?_⟩
    refine r6 j (Nat.lt_of_lt_of_le hj (Nat.mul_le_mul_right _ (by omega)))
/-- An operation told by a rule of its own, alone. -/
theorem ASoloK.x {o : Oper} {st1 : AS} {K : AS → Prop} (hc : callsF o = none) (ha : aop P st o.op = none) (h : AStepX P o st (fun s => s = st1)) (hk : K st1) : ASoloK P o st K :=
  ⟨st1, by unfold AStep; rw [hc]; simp only [ha]; exact h, hk⟩
end
end Go.Al

/- A region that draws, told once for all its orders. -/
namespace Go.Al
/-- All orders of a region lead to states of which R is told. -/
theorem ADraw.via {P : Program} {N id : Nat} {ops : Array Oper} {Q : Exit → AS → Prop} {st : AS} (R : AS → Prop) (h1 : ADraw P N id ops (fun e s => e = .normal ∧ R s) st) (h2 : ∀ s, Al.Below s → R s → Q .normal s) : ADraw P N id ops Q st := by
  have h1 : AWP P N (.region id ops true) (fun e s => e = .normal ∧ R s) st := h1
  show AWP P N (.region id ops true) Q st
  intro a w B0 base β hi
  refine wp_mono (h1 a w B0 base β hi) ?_
  rintro e a' w' ⟨s, b, k1, k2, rfl, k3⟩
  exact ⟨s, b, k1, k2, h2 s (fun id o ho => k1.heap.dom id o ho) k3⟩
section
variable {P : Program} {N : Nat}
theorem AStepX.mono {o : Oper} {st : AS} {K K' : AS → Prop} (h : AStepX P o st K) (hk : ∀ s, K s → K' s) : AStepX P o st K' := by
  intro N a w B0 base β hi
  obtain ⟨v, H', n', h1, h2⟩ := h N a w B0 base β hi
  exact ⟨v, H', n', h1, hk _ h2⟩
theorem AStep.mono {o : Oper} {st : AS} {K K' : AS → Prop} (h : AStep P o st K) (hk : ∀ s, K s → K' s) : AStep P o st K' := by
  unfold AStep at h ⊢
  split at h
  · rcases h with ⟨g, cs, R, h1, h2, h3⟩ | h
    · exact .inl ⟨g, cs, R, h1, h2, fun r H' n' hr => hk _ (h3 r H' n' hr)⟩
    · exact .inr (h.mono hk)
  · split at h
    · exact hk _ h
    · exact h.mono hk
theorem AOps.mono {G : List (Option Nat)} {K K' : AS → Prop} (hk : ∀ s, K s → K' s) : ∀ {l : List Oper} {st : AS}, AOps P G K l st → AOps P G K' l st
  | [], st, h => hk _ h
  | o :: l, st, h => by
    unfold AOps at h ⊢
    split at h
    · exact AStep.mono h fun s hs => AOps.mono hk hs
    · exact AOps.mono hk h
    · exact h
theorem axd_mono : ∀ (c : Code) (Q Q' : Exit → AS → Prop) (st : AS), axd P N c Q st → (∀ e s, Q e s → Q' e s) → axd P N c Q' st
  | .skip, Q, Q', st, h, hq => hq _ _ h
  | .label _, Q, Q', st, h, hq => hq _ _ h
  | .ret, Q, Q', st, h, hq => hq _ _ h
  | .exit _, Q, Q', st, h, hq => hq _ _ h
  | .seq x y, Q, Q', st, h, hq => by
    unfold axd at h ⊢
    refine axd_mono x _ _ st h ?_
    intro e s hs
    cases e with
    | normal => exact axd_mono y _ _ s hs hq
    | _ => exact hq _ _ hs
  | .cond c x y, Q, Q', st, h, hq => by
    unfold axd at h ⊢
    obtain ⟨t, h1, h2, h3⟩ := h
    exact ⟨t, h1, fun ht => axd_mono x _ _ st (h2 ht) hq, fun ht => axd_mono y _ _ st (h3 ht) hq⟩
  | .block id c, Q, Q', st, h, hq => by
    unfold axd at h ⊢
    refine axd_mono c _ _ st h ?_
    intro e s hs
    cases e with
    | exit id' =>
      replace hs : if id' = id then Q .normal s else Q (.exit id') s := hs
      show if id' = id then Q' .normal s else Q' (.exit id') s
      by_cases hc : id' = id
      · rw [if_pos hc] at hs ⊢; exact hq _ _ hs
      · rw [if_neg hc] at hs ⊢; exact hq _ _ hs
    | _ => exact hq _ _ hs
  | .region id ops false, Q, Q', st, h, hq => by
    unfold axd at h ⊢
    exact ⟨h.1, AOps.mono (fun s hs => hq _ _ hs) h.2⟩
  | .region id ops true, Q, Q', st, h, hq => by
    unfold axd at h ⊢
    exact AWP.mono (c := .region id ops true) h hq
  | .loop c, Q, Q', st, h, hq => by
    unfold axd at h ⊢
    exact AWP.mono (c := .loop c) h hq
  | .scope c, Q, Q', st, h, hq => by
    unfold axd at h ⊢
    refine axd_mono c _ _ st h ?_
    intro e s hs
    cases e with
    | goto l => exact hs
    | _ => exact hq _ _ hs
  | .goto _, Q, Q', st, h, hq => by unfold axd at h; exact h.elim
  | .rangeFunc .., Q, Q', st, h, hq => by unfold axd at h; exact h.elim
/-- Code cut in two: all its ways lead to states of which R is told. -/
theorem ax_via {c : Code} {Q : Exit → AS → Prop} {st : AS} (R : AS → Prop) (h1 : ax P N c (fun e s => e = .normal ∧ R s) st) (h2 : ∀ s, R s → Q .normal s) : ax P N c Q st := by
  rw [ax_eq] at h1 ⊢
  refine axd_mono c _ _ st h1 ?_
  rintro e s ⟨rfl, hs⟩
  exact h2 s hs
end
end Go.Al

/- Regions that draw, with quiet calls: calls that leave all objects as they were. -/
namespace Go.Al
/-- A call that tells one state, and leaves the objects that there are. -/
def QStep (P : Program) (o : Oper) (st st' : AS) : Prop := ∃ c f g cs r H1 n1, callsF o = some (c, f) ∧ st.ev f = .fn g cs ∧ HCalls P g (c.args.toList.map st.ev ++ cs) st.H st.n (fun r' H' n' => r' = r ∧ H' = H1 ∧ n' = n1) ∧ (∀ id, id < st.n → H1 id = st.H id) ∧ st' = (inHeap st H1 n1).put o.dst r
/-- m: 0 any operation that may be told first, 1 one told alone, 2 a quiet call. -/
def DStepY (P : Program) (G : List (Option Nat)) (m : Nat) (o : Oper) (st st' : AS) : Prop :=
  DStep P G o st st' ∨ (m = 1 ∧ AWant G o st = some true ∧ AStep P o st fun s => s = st') ∨ (opKind o = 5 ∧ AWant G o st = some true ∧ callsF o = none ∧ aop P st o.op = none ∧ AStepX P o st fun s => s = st') ∨ (m = 2 ∧ AWant G o st = some true ∧ QStep P o st st')
def DAnyY (P : Program) (ops : Array Oper) (M : Nat → Nat) (K : AS → Prop) : Nat → Array Bool → AS → Prop
  | 0, listed, st => Dom st → Region.ready .any ops listed = [] ∧ K st
  | f + 1, listed, st => Dom st → (Region.ready .any ops listed = [] → K st) ∧
    ∀ i ∈ Region.ready .any ops listed, ∃ o st', ops[i]? = some o ∧ DStepY P (ops.toList.map (·.dst)) (M i) o st st' ∧ DAnyY P ops M K f (listed.setIfInBounds i true) st'
section
variable {P : Program} {N : Nat} {ops : Array Oper} {K : AS → Prop}
theorem Dom.heap {st : AS} (h : Dom st) {H : AH} {n : Nat} : True := trivial
theorem QStep_comm {oi oj : Oper} {st st1 st2 : AS} (hap : oi.apart ops oj = true) (hk : kindOk oi oj = true) (hdom : Dom st)
    (hi : DStep P (ops.toList.map (·.dst)) oi st st1) (hw : AWant (ops.toList.map (·.dst)) oj st1 = some true) (hj : QStep P oj st1 st2) :
    ∃ st', AWant (ops.toList.map (·.dst)) oj st = some true ∧ QStep P oj st st' ∧ DStep P (ops.toList.map (·.dst)) oi st' st2 := by
  obtain ⟨a1, a2, a3⟩ := Oper.apart_spec hap
  -- what i leaves: its value in its temporary
  obtain ⟨vi, hst1, hval⟩ : ∃ vi, st1 = st.put oi.dst vi ∧ ∀ (Hj : AH) (nj : Nat) (vj : AV), (opKind oi = 1 → ∀ id, id < st.n → Hj id = st.H id) →
      DStep P (ops.toList.map (·.dst)) oi ((inHeap st Hj nj).put oj.dst vj) (((inHeap st Hj nj).put oj.dst vj).put oi.dst vi) := by
    have hev : ∀ (Hj : AH) (nj : Nat) (vj : AV), ∀ x ∈ oi.op.operands, ((inHeap st Hj nj).put oj.dst vj).ev x = (inHeap st Hj nj).ev x := fun Hj nj vj => looks_ev a3
    rcases hi with ⟨h1, h2⟩ | ⟨h1, ⟨h2, v, H', n', h3, h4⟩ | ⟨c, f, g, r, h2, h3, h5, h6⟩⟩
    · exact ⟨.sc (.tuple #[]), h2, fun Hj nj vj _ => .inl ⟨by rw [looks_want a3]; exact h1, rfl⟩⟩
    · have hk0 : opKind oi = 0 ∨ opKind oi = 1 := by
        unfold kindOk at hk
        split at hk
        · exact .inl (by assumption)
        · exact .inr (by assumption)
        · rename_i hk2
          exfalso
          unfold opKind at hk2
          unfold callsF at h2
          split at hk2 <;> first | (cases hk2; done) | skip
          rename_i c hc
          rw [hc] at h2
          split at hk2 <;> first | (cases hk2; done) | skip
          rename_i f hf
          simp [hf] at h2
        · cases hk
      rcases hk0 with hk0 | hk0
      · obtain ⟨e1, e2, _⟩ := aop_indep hk0 h3 st.H st.n
        subst e1; subst e2
        refine ⟨v, h4, fun Hj nj vj _ => .inr ⟨by rw [looks_want a3]; exact h1, .inl ⟨h2, v, Hj, nj, ?_, ?_⟩⟩⟩
        · rw [aop_congr (hev Hj nj vj) (by rw [(put_HN _ _ _).1]) (by rw [(put_HN _ _ _).2])]
          exact (aop_indep hk0 h3 Hj nj).2.2
        · congr 1; cases oj.dst <;> rfl
      · -- a load
        have hload : ∃ t x, oi.op = .load t x := by
          unfold opKind at hk0
          split at hk0 <;> first | (cases hk0; done) | skip
          · exact ⟨_, _, by assumption⟩
          · split at hk0 <;> cases hk0
        obtain ⟨t, x, hop⟩ := hload
        rw [hop] at h3
        have h3' := h3
        simp only [aop] at h3'
        obtain ⟨u, hu, hv⟩ := Option.bind_eq_some_iff.1 h3'
        obtain ⟨rfl, rfl, rfl⟩ := some3 hv
        refine ⟨u, h4, fun Hj nj vj hHj => .inr ⟨by rw [looks_want a3]; exact h1, .inl ⟨h2, u, Hj, nj, ?_, ?_⟩⟩⟩
        · rw [aop_congr (hev Hj nj vj) (by rw [(put_HN _ _ _).1]) (by rw [(put_HN _ _ _).2]), hop]
          simp only [aop, inHeap_ev]
          have : aload P Hj t (st.ev x) = some u := by
            unfold aload at hu ⊢
            obtain ⟨T, hT, hu⟩ := Option.bind_eq_some_iff.1 hu
            rw [hT, Option.bind_some]
            split at hu
            · rename_i id z i off hxv
              have hne : st.H id ≠ none := by intro e; rw [e] at hu; simp at hu
              have hid : id < st.n := hdom id hne
              rw [hHj hk0 id hid]
              exact hu
            · exact hu
            · cases hu
          show (aload P Hj t (st.ev x)).bind (fun v => some (v, Hj, nj)) = _
          rw [this, Option.bind_some]
        · congr 1; cases oj.dst <;> rfl
    · refine ⟨r, h6, fun Hj nj vj _ => .inr ⟨by rw [looks_want a3]; exact h1, .inr ⟨c, f, g, r, h2, ?_, ?_, rfl⟩⟩⟩
      · rw [(calls_ev h2 (hev Hj nj vj)).1, inHeap_ev]; exact h3
      · rw [(calls_ev h2 (hev Hj nj vj)).2, inHeap_evf]; exact h5
  subst hst1
  have hevj : ∀ x ∈ oj.op.operands, (st.put oi.dst vi).ev x = st.ev x := looks_ev a1
  have hwj : AWant (ops.toList.map (·.dst)) oj (st.put oi.dst vi) = AWant (ops.toList.map (·.dst)) oj st := by
    have := looks_want (ops := ops) (o := oj) (st := st) (d := oi.dst) (v := vi) a1 st.H st.n
    simpa [inHeap] using this
  obtain ⟨c, f, g, cs, r, H1, n1, k1, k2, k3, k4, k5⟩ := hj
  obtain ⟨e1, e2⟩ := calls_ev k1 hevj
  rw [e1] at k2
  rw [e2, (put_HN _ _ _).1, (put_HN _ _ _).2] at k3
  rw [(put_HN _ _ _).2] at k4
  rw [(put_HN _ _ _).1] at k4
  refine ⟨(inHeap st H1 n1).put oj.dst r, by rw [← hwj]; exact hw, ⟨c, f, g, cs, r, H1, n1, k1, k2, k3, k4, rfl⟩, ?_⟩
  rw [k5, inHeap_put, put_comm a2]
  exact hval H1 n1 r (fun _ => k4)
theorem DStepY.low {oi oj : Oper} {G : List (Option Nat)} {m : Nat} {st st1 : AS} (hk : kindOk oi oj = true) (hb : m = 0) (h : DStepY P G m oi st st1) : DStep P G oi st st1 := by
  rcases h with h | h | h | h
  · exact h
  · omega
  · unfold kindOk at hk
    rw [h.1] at hk
    cases hk
  · omega
/-- What may come up now, and minds no other, comes first. -/
theorem DAnyY_first {S : Nat → Nat} {i : Nat} {oi : Oper} (hi : ops[i]? = some oi) : ∀ (f : Nat) (listed : Array Bool) (st st1 : AS), Closed ops listed →
    (∀ j oj, ops[j]? = some oj → j ≠ i → listed.getD j true = false → Anc ops j i ∨ (oi.apart ops oj = true ∧ kindOk oi oj = true ∧ opKind oj ≠ 5 ∧ S i = 0 ∧ (S j = 0 ∨ S j = 2))) →
    i ∈ Region.ready .any ops listed → DStepY P (ops.toList.map (·.dst)) (S i) oi st st1 → DAnyY P ops S K f (listed.setIfInBounds i true) st1 → DAnyY P ops S K (f + 1) listed st := by
  intro f
  induction f with
  | zero =>
    intro listed st st1 hcl hfree hr hs hd
    simp only [DAnyY] at hd ⊢
    intro hdom
    refine ⟨fun h => (by rw [h] at hr; cases hr), fun j hj => ?_⟩
    by_cases hji : j = i
    · subst hji; exact ⟨oi, st1, hi, hs, hd⟩
    · exfalso
      obtain ⟨hjun, oj, hoj, hall⟩ := mem_ready.1 hj
      rcases hfree j oj hoj hji hjun with ha | ⟨ha, hk, hk5, hSi, hSj⟩
      · have h1 := ha.listed hcl (.inr hj)
        have h2 := (mem_ready.1 hr).1
        rcases Nat.lt_or_ge i listed.size with h' | h'
        · simp [h'] at h1 h2; rw [h1] at h2; cases h2
        · simp [Array.getElem?_eq_none h'] at h1
      · obtain ⟨vi, rfl⟩ := DStep_put hk (DStepY.low hk hSi hs)
        have := ready_mono hj hji
        rw [(hd hdom.put).1] at this
        cases this
  | succ f ih =>
    intro listed st st1 hcl hfree hr hs hd
    rw [DAnyY]
    intro hdom
    refine ⟨fun h => (by rw [h] at hr; cases hr), fun j hj => ?_⟩
    by_cases hji : j = i
    · subst hji; exact ⟨oi, st1, hi, hs, hd⟩
    · obtain ⟨hjun, oj, hoj, hall⟩ := mem_ready.1 hj
      rcases hfree j oj hoj hji hjun with ha | ⟨ha, hk, hk5, hSi, hSj⟩
      · exfalso
        have h1 := ha.listed hcl (.inr hj)
        have h2 := (mem_ready.1 hr).1
        rcases Nat.lt_or_ge i listed.size with h' | h'
        · simp [h'] at h1 h2; rw [h1] at h2; cases h2
        · simp [Array.getElem?_eq_none h'] at h1
      · obtain ⟨vi, hst1⟩ := DStep_put hk (DStepY.low hk hSi hs)
        rw [DAnyY] at hd
        have hd2 := (hd (by rw [hst1]; exact hdom.put)).2 j (ready_mono hj hji)
        obtain ⟨oj', st2, hoj', hs2, hd3⟩ := hd2
        rw [hoj] at hoj'; cases hoj'
        have hcm : ∃ st', DStepY P (ops.toList.map (·.dst)) (S j) oj st st' ∧ DStep P (ops.toList.map (·.dst)) oi st' st2 := by
          rcases hs2 with h | h | h | h
          · obtain ⟨st', k1, k2⟩ := DStep_comm ha hk hdom (DStepY.low hk hSi hs) h
            exact ⟨st', .inl k1, k2⟩
          · omega
          · exact absurd h.1 hk5
          · obtain ⟨st', k0, k1, k2⟩ := QStep_comm ha hk hdom (DStepY.low hk hSi hs) h.2.1 h.2.2
            exact ⟨st', .inr (.inr (.inr ⟨h.1, k0, k1⟩)), k2⟩
        obtain ⟨st', k1, k2⟩ := hcm
        refine ⟨oj, st', hoj, k1, ih (listed.setIfInBounds j true) st' st2 (hcl.set hj) ?_ (ready_mono hr (Ne.symm hji)) (.inl k2) ?_⟩
        · intro k ok hok hki hun
          refine hfree k ok hok hki ?_
          by_cases hjk : j = k
          · subst hjk; exact hjun
          · rw [getD_set_ne true hjk] at hun; exact hun
        · rw [Array.setIfInBounds_comm _ _ hji]; exact hd3
theorem DAnyY_only {S : Nat → Nat} {i : Nat} {oi : Oper} {f : Nat} {listed : Array Bool} {st st1 : AS} (hi : ops[i]? = some oi) (hr : Region.ready .any ops listed = [i])
    (hs : DStepY P (ops.toList.map (·.dst)) (S i) oi st st1) (hd : DAnyY P ops S K f (listed.setIfInBounds i true) st1) : DAnyY P ops S K (f + 1) listed st := by
  rw [DAnyY]
  intro _
  refine ⟨fun h => (by rw [h] at hr; cases hr), fun j hj => ?_⟩
  rw [hr] at hj
  have : j = i := by simpa using hj
  subst this
  exact ⟨oi, st1, hi, hs, hd⟩

def firstY (ops : Array Oper) (S : Nat → Nat) (A : List (List Nat)) (listed : Array Bool) (i : Nat) : Bool :=
  match ops[i]? with
  | none => false
  | some oi => readyB ops listed i && (List.range ops.size).all fun j => j == i || listed.getD j true || (A.getD j []).contains i || (match ops[j]? with
    | some oj => oi.apart ops oj && kindOk oi oj && decide (opKind oj ≠ 5 ∧ S i = 0 ∧ (S j = 0 ∨ S j = 2))
    | none => true)
/-- A plan: which operation next, and whether it comes first out of several. -/
def planY (ops : Array Oper) (S : Nat → Nat) (A : List (List Nat)) : List (Nat × Bool) → Array Bool → Option (Array Bool)
  | [], listed => some listed
  | (i, b) :: r, listed => if (if b then firstY ops S A listed i else decide (Region.ready .any ops listed = [i])) then planY ops S A r (listed.setIfInBounds i true) else none

def AQuietK (P : Program) (o : Oper) (st : AS) (K : AS → Prop) : Prop := ∃ st1, QStep P o st st1 ∧ K st1
theorem AQuietK.intro {o : Oper} {st : AS} {K : AS → Prop} {c : Call} {f : Operand} {g : FuncId} {cs : List AV} {r : AV} {H1 : AH} {n1 : Nat} (hc : callsF o = some (c, f)) (hf : st.ev f = .fn g cs) (h : HCalls P g (c.args.toList.map st.ev ++ cs) st.H st.n (fun r' H' n' => r' = r ∧ H' = H1 ∧ n' = n1)) (hk : ∀ id, id < st.n → H1 id = st.H id) (hK : K ((inHeap st H1 n1).put o.dst r)) : AQuietK P o st K :=
  ⟨_, ⟨c, f, g, cs, r, H1, n1, hc, hf, h, hk, rfl⟩, hK⟩
/-- A call with a heap, alone, that tells one state. -/
theorem ASoloK.heap {o : Oper} {st : AS} {K : AS → Prop} {c : Call} {f : Operand} {g : FuncId} {cs : List AV} {r : AV} {H1 : AH} {n1 : Nat} (hc : callsF o = some (c, f)) (hf : st.ev f = .fn g cs) (h : HCalls P g (c.args.toList.map st.ev ++ cs) st.H st.n (fun r' H' n' => r' = r ∧ H' = H1 ∧ n' = n1)) (hK : K ((AS.mk st.t H1 n1).put o.dst r)) : ASoloK P o st K := by
  refine ⟨_, ?_, hK⟩
  unfold AStep
  rw [hc]
  exact .inl ⟨g, cs, _, hf, h, fun r' H' n' hq => by obtain ⟨e1, e2, e3⟩ := hq; rw [e1, e2, e3]⟩
def AOpsE (P : Program) (G : List (Option Nat)) (K : AS → Prop) : List (Oper × Nat) → AS → Prop
  | [], st => K st
  | (o, m) :: rest, st => match AWant G o st with
    | some true => (match m with
      | 0 => (match callsF o with
        | some (c, f) => ACallP P st c f o.dst (AOpsE P G K rest)
        | none => match aop P st o.op with
          | some r => AOpsE P G K rest ((AS.mk st.t r.2.1 r.2.2).put o.dst r.1)
          | none => opKind o = 5 ∧ ∃ st1, AStepX P o st (fun s => s = st1) ∧ AOpsE P G K rest st1)
      | 1 => ASoloK P o st (AOpsE P G K rest)
      | _ => AQuietK P o st (AOpsE P G K rest))
    | some false => AOpsE P G K rest (st.put o.dst (.sc (.tuple #[])))
    | none => False
def AOpsEB : Program → List (Option Nat) → (AS → Prop) → List (Oper × Nat) → AS → Prop := Classical.choose (⟨AOpsE, rfl⟩ : ∃ f, f = AOpsE)
theorem AOpsEB_eq : AOpsEB = AOpsE := Classical.choose_spec (⟨AOpsE, rfl⟩ : ∃ f, f = AOpsE)
theorem AOpsE_nil {G : List (Option Nat)} {K : AS → Prop} {st : AS} : AOpsEB P G K [] st = K st := by rw [AOpsEB_eq, AOpsE]
theorem AOpsE_cons {G : List (Option Nat)} {K : AS → Prop} {o : Oper} {l : List (Oper × Nat)} {st : AS} : AOpsEB P G K ((o, 0) :: l) st = (match AWant G o st with
    | some true => (match callsF o with
      | some (c, f) => ACallP P st c f o.dst (AOpsEB P G K l)
      | none => match aop P st o.op with
        | some r => AOpsEB P G K l ((AS.mk st.t r.2.1 r.2.2).put o.dst r.1)
        | none => opKind o = 5 ∧ ∃ st1, AStepX P o st (fun s => s = st1) ∧ AOpsEB P G K l st1)
    | some false => AOpsEB P G K l (st.put o.dst (.sc (.tuple #[])))
    | none => False) := by rw [AOpsEB_eq, AOpsE]
theorem AOpsE_cons_solo {G : List (Option Nat)} {K : AS → Prop} {o : Oper} {l : List (Oper × Nat)} {st : AS} : AOpsEB P G K ((o, 1) :: l) st = (match AWant G o st with
    | some true => ASoloK P o st (AOpsEB P G K l)
    | some false => AOpsEB P G K l (st.put o.dst (.sc (.tuple #[])))
    | none => False) := by rw [AOpsEB_eq, AOpsE]
theorem AOpsE_cons_quiet {G : List (Option Nat)} {K : AS → Prop} {o : Oper} {l : List (Oper × Nat)} {st : AS} : AOpsEB P G K ((o, 2) :: l) st = (match AWant G o st with
    | some true => AQuietK P o st (AOpsEB P G K l)
    | some false => AOpsEB P G K l (st.put o.dst (.sc (.tuple #[])))
    | none => False) := by rw [AOpsEB_eq, AOpsE] <;> simp
theorem AOpsE_step {G : List (Option Nat)} {o : Oper} {m : Nat} {rest : List (Oper × Nat)} {st : AS} {K : AS → Prop} (hm : m ≤ 2) (h : AOpsE P G K ((o, m) :: rest) st) : ∃ st1, DStepY P G m o st st1 ∧ AOpsE P G K rest st1 := by
  simp only [AOpsE] at h
  split at h
  · rename_i hw
    split at h
    · split at h
      · rename_i c f hc
        obtain ⟨g, r, h1, h2, h3⟩ := h
        exact ⟨_, .inl (.inr ⟨hw, .inr ⟨c, f, g, r, hc, h1, h2, rfl⟩⟩), h3⟩
      · rename_i hc
        split at h
        · rename_i r hr
          exact ⟨_, .inl (.inr ⟨hw, .inl ⟨hc, r.1, r.2.1, r.2.2, hr, rfl⟩⟩), h⟩
        · rename_i hn
          obtain ⟨h5, st1, h6, h7⟩ := h
          exact ⟨st1, .inr (.inr (.inl ⟨h5, hw, hc, hn, h6⟩)), h7⟩
    · obtain ⟨st1, h1, h2⟩ := h
      exact ⟨st1, .inr (.inl ⟨rfl, hw, h1⟩), h2⟩
    · rename_i h0 h1
      obtain ⟨st1, h2, h3⟩ := h
      have e0 : m ≠ 0 := fun e => h0 e
      have e1 : m ≠ 1 := fun e => h1 e
      exact ⟨st1, .inr (.inr (.inr ⟨by omega, hw, h2⟩)), h3⟩
  · rename_i hw
    exact ⟨_, .inl (.inl ⟨hw, rfl⟩), h⟩
  · exact h.elim
theorem planY_sound {S : Nat → Nat} (hS : ∀ i, S i ≤ 2) {A : List (List Nat)} (hA : ∀ j, ∀ k ∈ A.getD j [], Anc ops j k) {listed' : Array Bool} {f' : Nat} {K' : AS → Prop} (hK : ∀ st, K' st → DAnyY P ops S K f' listed' st) :
    ∀ (plan : List (Nat × Bool)) (listed : Array Bool) (st : AS), Closed ops listed → planY ops S A plan listed = some listed' →
      AOpsE P (ops.toList.map (·.dst)) K' (plan.map fun p => (ops.getD p.1 default, S p.1)) st → DAnyY P ops S K (plan.length + f') listed st
  | [], listed, st, _, hp, h => by
    simp only [planY, Option.some.injEq] at hp
    subst hp
    simp only [List.map_nil, AOpsE] at h
    simpa using hK st h
  | (i, b) :: plan, listed, st, hcl, hp, h => by
    rw [planY] at hp
    by_cases hc : (if b = true then firstY ops S A listed i else decide (Region.ready .any ops listed = [i])) = true
    · rw [if_pos hc] at hp
      obtain ⟨st1, hs, hrest⟩ := AOpsE_step (hS i) h
      simp only at hs
      rw [List.length_cons, show plan.length + 1 + f' = (plan.length + f') + 1 by omega]
      cases b with
      | true =>
        simp only [if_true] at hc
        unfold firstY at hc
        split at hc
        · cases hc
        · rename_i oi hoi
          simp only [Bool.and_eq_true] at hc
          obtain ⟨hc1, hc2⟩ := hc
          have hr := readyB_spec hc1
          have hget : ops.getD i default = oi := by simp [Array.getD_eq_getD_getElem?, hoi]
          rw [hget] at hs
          refine DAnyY_first hoi _ listed st st1 hcl ?_ hr hs (planY_sound hS hA hK plan _ st1 (hcl.set hr) hp hrest)
          intro j oj hoj hji hun
          have hlt : j < ops.size := (Array.getElem?_eq_some_iff.1 hoj).1
          have := List.all_eq_true.1 hc2 j (List.mem_range.2 hlt)
          simp only [Bool.or_eq_true, beq_iff_eq, hji, false_or, hun, Bool.false_eq_true, hoj, Bool.and_eq_true] at this
          rcases this with this | this
          · exact .inl (hA j i (by simpa using this))
          · exact .inr ⟨this.1.1, this.1.2, (of_decide_eq_true this.2).1, (of_decide_eq_true this.2).2.1, (of_decide_eq_true this.2).2.2⟩
      | false =>
        simp only [Bool.false_eq_true, if_false, decide_eq_true_eq] at hc
        have hr : i ∈ Region.ready .any ops listed := by rw [hc]; simp
        obtain ⟨_, oi, hoi, _⟩ := mem_ready.1 hr
        have hget : ops.getD i default = oi := by simp [Array.getD_eq_getD_getElem?, hoi]
        rw [hget] at hs
        exact DAnyY_only hoi hc hs (planY_sound hS hA hK plan _ st1 (hcl.set hr) hp hrest)
    · rw [if_neg hc] at hp
      cases hp

theorem DAnyY_sound {S : Nat → Nat} {base : Nat} {B0 : Nat → Nat → Prop} {Q : Exit → Act → World → Prop} {w0 : World} {β0 : Nat → Nat} {st0 : AS} (hds : dstsOk N ops.toList = true)
    (hk : ∀ a' w' β' st', Inv N a' w' B0 base β' st' → Ext w0 B0 β0 st0.n st0.H w' β' st'.n st'.H → K st' → Q .normal a' w') :
    ∀ (f : Nat) (listed : Array Bool) (a : Act) (w : World) (β : Nat → Nat) (st : AS), Inv N a w B0 base β st → Ext w0 B0 β0 st0.n st0.H w β st.n st.H → DAnyY P ops S K f listed st → wpAny P .any ops Q f listed a w
  | 0, listed, a, w, β, st, hi, he, h => by
    simp only [DAnyY] at h
    have hdom : Dom st := fun id hid => by
      cases hH : st.H id with
      | none => exact absurd hH hid
      | some o => exact hi.heap.dom id o hH
    exact ⟨(h hdom).1, hk a w β st hi he (h hdom).2⟩
  | f + 1, listed, a, w, β, st, hi, he, h => by
    rw [DAnyY] at h
    have hdom : Dom st := fun id hid => by
      cases hH : st.H id with
      | none => exact absurd hH hid
      | some o => exact hi.heap.dom id o hH
    obtain ⟨h1, h2⟩ := h hdom
    refine ⟨fun hr => hk a w β st hi he (h1 hr), fun i hir => ?_⟩
    obtain ⟨o, st', ho, hs, hd⟩ := h2 i hir
    have hdo : dstOk N o := by
      have hmem : o ∈ ops.toList := by
        rw [← Array.getElem?_toList] at ho
        exact List.mem_of_getElem? ho
      have := List.all_eq_true.1 hds o hmem
      unfold dstOk
      cases hd : o.dst <;> simp [hd] at this ⊢
      exact this
    unfold wpOp
    simp only [ho]
    rcases hs with hs | ⟨_, g1, g2⟩ | ⟨_, g1, g2, g3, g4⟩ | ⟨_, g1, c, f', g, cs, r, H1, n1, q1, q2, q3, q4, q5⟩
    case inr.inr.inr =>
      rw [if_pos (AWant_spec hi g1)]
      left
      refine AStep_sound (K := fun s => s = st') hi hdo ?_ fun a' w' β' s k1 k2 k3 => by
        subst k3
        exact DAnyY_sound hds hk f _ a' w' β' s k1 (he.trans k2) hd
      unfold AStep
      rw [q1]
      refine .inl ⟨g, cs, _, q2, q3, fun r' H' n' hq => ?_⟩
      obtain ⟨e1, e2, e3⟩ := hq
      rw [e1, e2, e3]
      exact q5.symm
    case inr.inl =>
      rw [if_pos (AWant_spec hi g1)]
      left
      exact AStep_sound (K := fun s => s = st') hi hdo g2 fun a' w' β' s k1 k2 k3 => by
        subst k3
        exact DAnyY_sound hds hk f _ a' w' β' s k1 (he.trans k2) hd
    case inr.inr.inl =>
      rw [if_pos (AWant_spec hi g1)]
      left
      refine AStep_sound (K := fun s => s = st') hi hdo ?_ fun a' w' β' s k1 k2 k3 => by
        subst k3
        exact DAnyY_sound hds hk f _ a' w' β' s k1 (he.trans k2) hd
      unfold AStep
      rw [g2]
      simp only [g3]
      exact g4
    rcases hs with ⟨g1, g2⟩ | ⟨g1, g2⟩
    · rw [if_neg (by rw [AWant_spec hi g1]; simp)]
      have h3 := hi.put (d := o.dst) (v := .sc (.tuple #[])) (u := undef) hdo hi.heap (Ext.refl _ _ _ _ _) (by simp only [RepV]; rfl)
      subst g2
      refine DAnyY_sound hds hk f _ _ w β _ h3 ?_ hd
      cases o.dst <;> exact he
    · rw [if_pos (AWant_spec hi g1)]
      left
      refine AStep_sound (K := fun s => s = st') hi hdo ?_ fun a' w' β' s k1 k2 k3 => by
        subst k3
        exact DAnyY_sound hds hk f _ a' w' β' s k1 (he.trans k2) hd
      unfold AStep
      rcases g2 with ⟨g2, v, H', n', g3, g4⟩ | ⟨c, f', g, r, g2, g3, g4, g5⟩
      · rw [g2]
        simp only [g3]
        exact g4.symm
      · rw [g2]
        refine .inl ⟨g, [], (fun r' H' n' => r' = r ∧ H' = st.H ∧ n' = st.n), g3, by rw [List.append_nil]; exact g4.here st.H st.n, fun r' H' n' hq => ?_⟩
        obtain ⟨e1, e2, e3⟩ := hq
        subst e1; subst e2; subst e3
        exact g5.symm

theorem ADraw.of_anyY {S : Nat → Nat} {id : Nat} {Q : Exit → AS → Prop} {st : AS} (hm : P.follows .mixedOrders = true) (hds : dstsOk N ops.toList = true)
    (h : DAnyY P ops S (Q .normal) ops.size (Array.replicate ops.size false) st) : ADraw P N id ops Q st := by
  intro a w B0 base β hi
  refine wp_region_any hm ?_
  have hb : RowKit.Below w.heap.size w { w with drawn := w.drawn + 1 } := ⟨rfl, rfl, rfl, Nat.le_refl _, fun _ _ => rfl⟩
  have hi' : Inv N a { w with drawn := w.drawn + 1 } B0 base β st := ⟨hi.size, hi.defers, fun i => (hi.tmps i).mono (Ext.of_below (n := st.n) hb).pres (fun _ _ => rfl) (Nat.le_refl _), hi.heap.below hb, hi.b0, hi.base⟩
  exact DAnyY_sound (Q := APost N w B0 base β st Q) (w0 := w) (β0 := β) (st0 := st) hds (fun a' w' β' st' h1 h2 h3 => ⟨st', β', h1, h2, h3⟩) _ _ a _ β st hi' (Ext.of_below hb) h
/-- The mode of an operation, of those told alone, and of the quiet ones. -/
def modeOf (S T : List Nat) (i : Nat) : Nat := if T.contains i then 2 else if S.contains i then 1 else 0
theorem modeOf_le (S T : List Nat) (i : Nat) : modeOf S T i ≤ 2 := by unfold modeOf; split; exact Nat.le_refl _; split <;> omega
/-- The rule: a plan for all operations; those of S come up alone, those of T are quiet calls. -/
theorem ADraw.planQ {id : Nat} {Q : Exit → AS → Prop} {st : AS} (S T : List Nat) (plan : List (Nat × Bool)) (hm : P.follows .mixedOrders = true)
    (hc : (dstsOk N ops.toList && decide (plan.length = ops.size) && (match planY ops (modeOf S T) (ancs ops.toList []) plan (Array.replicate ops.size false) with | some l => (Region.ready .any ops l).isEmpty | none => false)) = true)
    (h : AOpsEB P (ops.toList.map (·.dst)) (Q .normal) (plan.map fun p => (ops.getD p.1 default, modeOf S T p.1)) st) : ADraw P N id ops Q st := by
  simp only [Bool.and_eq_true, decide_eq_true_eq] at hc
  obtain ⟨⟨h1, h2⟩, h3⟩ := hc
  split at h3
  · rename_i l hl
    refine ADraw.of_anyY (S := modeOf S T) hm h1 ?_
    have hA := ancs_ok (ops := ops) ops.toList [] (fun i => by simp) (fun j k hk => by simp at hk)
    have := planY_sound (P := P) (S := modeOf S T) (modeOf_le S T) (K := Q .normal) hA (listed' := l) (f' := 0) (K' := Q .normal) (fun s hs => by
      simp only [DAnyY]
      intro _
      exact ⟨by simpa using h3, hs⟩) plan _ st Closed.none hl (by rw [← AOpsEB_eq]; exact h)
    rw [Nat.add_zero, h2] at this
    exact this
  · cases h3
end
end Go.Al

/- Plans, and trees, with quiet calls. -/
namespace Go.Al
section
variable {P : Program} {N : Nat} {ops : Array Oper}
theorem planY_closed {S : Nat → Nat} {A : List (List Nat)} : ∀ (plan : List (Nat × Bool)) (listed l : Array Bool), Closed ops listed → planY ops S A plan listed = some l → Closed ops l
  | [], listed, l, hcl, hp => by simp only [planY, Option.some.injEq] at hp; subst hp; exact hcl
  | (i, b) :: plan, listed, l, hcl, hp => by
    rw [planY] at hp
    by_cases hc : (if b = true then firstY ops S A listed i else decide (Region.ready .any ops listed = [i])) = true
    · rw [if_pos hc] at hp
      have hr : i ∈ Region.ready .any ops listed := by
        cases b with
        | true =>
          simp only [if_true] at hc
          unfold firstY at hc
          split at hc
          · cases hc
          · simp only [Bool.and_eq_true] at hc
            exact readyB_spec hc.1
        | false =>
          simp only [Bool.false_eq_true, if_false, decide_eq_true_eq] at hc
          rw [hc]; simp
      exact planY_closed plan _ l (hcl.set hr) hp
    · rw [if_neg hc] at hp
      cases hp
/-- Operations by their places among those that are left. -/
def pickN : List Oper → List (Nat × Nat) → List (Oper × Nat)
  | _, [] => []
  | [], _ :: _ => []
  | o :: l, (0, b) :: ps => (o, b) :: pickN l ps
  | o :: l, (k + 1, b) :: ps => match l[k]? with
    | some x => (x, b) :: pickN (o :: l.eraseIdx k) ps
    | none => []
theorem pickN_nil {l : List Oper} : pickN l [] = [] := by cases l <;> rfl
theorem pickN_zero {o : Oper} {l : List Oper} {b : Nat} {ps : List (Nat × Nat)} : pickN (o :: l) ((0, b) :: ps) = (o, b) :: pickN l ps := rfl
theorem pickN_succ {o : Oper} {l : List Oper} {k : Nat} {b : Nat} {ps : List (Nat × Nat)} : pickN (o :: l) ((k + 1, b) :: ps) = (match l[k]? with
    | some x => (x, b) :: pickN (o :: l.eraseIdx k) ps
    | none => []) := rfl
theorem ADraw.planQR {id : Nat} {Q : Exit → AS → Prop} {st : AS} (S T : List Nat) (plan : List (Nat × Bool)) (rel : List (Nat × Nat)) (hm : P.follows .mixedOrders = true)
    (hc : (dstsOk N ops.toList && decide (plan.length = ops.size) && (match planY ops (modeOf S T) (ancs ops.toList []) plan (Array.replicate ops.size false) with | some l => (Region.ready .any ops l).isEmpty | none => false)) = true)
    (hE : (plan.map fun p => (ops.getD p.1 default, modeOf S T p.1)) = pickN ops.toList rel)
    (h : AOpsEB P (ops.toList.map (·.dst)) (Q .normal) (pickN ops.toList rel) st) : ADraw P N id ops Q st :=
  ADraw.planQ S T plan hm hc (by rw [hE]; exact h)
end
section
variable {P : Program} {N : Nat} {ops : Array Oper}
def pickQ (S : Nat → Nat) (ops : Array Oper) (p : List (Nat × Bool)) : List (Oper × Nat) := p.map fun x => (ops.getD x.1 default, S x.1)
def ftQ (S : Nat → Nat) (P : Program) (G : List (Option Nat)) (K : AS → Prop) (ops : Array Oper) : FT → AS → Prop
  | .leaf p, s => AOpsEB P G K (pickQ S ops p) s
  | .fork p a b, s => AOpsEB P G (fun s' => ftQ S P G K ops a s' ∧ ftQ S P G K ops b s') (pickQ S ops p) s
def chQ (S : Nat → Nat) (ops : Array Oper) (A : List (List Nat)) : FT → Array Bool → Nat → Bool
  | .leaf ((i, _) :: r), l, n => r.length == n && (match planY ops S A r (l.setIfInBounds i true) with | some l2 => (Region.ready .any ops l2).isEmpty | none => false)
  | .fork ((i, _) :: r) a b, l, n => (match planY ops S A r (l.setIfInBounds i true) with | some l2 => decide (r.length < n) && forkOK ops l2 a b && chQ S ops A a l2 (n - r.length - 1) && chQ S ops A b l2 (n - r.length - 1) | none => false)
  | _, _, _ => false
theorem chQ_sound {S : Nat → Nat} (hS : ∀ i, S i ≤ 2) {A : List (List Nat)} (hA : ∀ j, ∀ k ∈ A.getD j [], Anc ops j k) {K : AS → Prop} : ∀ (t : FT) (l : Array Bool) (n : Nat) (st : AS) (i : Nat), Closed ops l → chQ S ops A t l n = true → t.first = some i → i ∈ Region.ready .any ops l →
    ftQ S P (ops.toList.map (·.dst)) K ops t st → ∃ o st', ops[i]? = some o ∧ DStepY P (ops.toList.map (·.dst)) (S i) o st st' ∧ DAnyY P ops S K n (l.setIfInBounds i true) st'
  | .leaf [], l, n, st, i, _, hc, _, _, _ => by simp [chQ] at hc
  | .fork [] a b, l, n, st, i, _, hc, _, _, _ => by simp [chQ] at hc
  | .leaf ((j, x) :: r), l, n, st, i, hcl, hc, hf, hi, hk => by
    simp only [FT.first, Option.some.injEq] at hf
    subst hf
    simp only [chQ, Bool.and_eq_true, beq_iff_eq] at hc
    obtain ⟨hn, hc⟩ := hc
    split at hc
    · rename_i l2 hl2
      simp only [ftQ, pickQ, List.map_cons] at hk
      rw [AOpsEB_eq] at hk
      obtain ⟨st1, hs1, hrest⟩ := AOpsE_step (hS _) hk
      obtain ⟨_, oi, hoi, _⟩ := mem_ready.1 hi
      have hget : ops.getD j default = oi := by simp [Array.getD_eq_getD_getElem?, hoi]
      rw [hget] at hs1
      refine ⟨oi, st1, hoi, hs1, ?_⟩
      have := planY_sound hS (P := P) (S := S) (K := K) hA (listed' := l2) (f' := 0) (K' := K) (fun s hs => by
        simp only [DAnyY]
        intro _
        exact ⟨by simpa using hc, hs⟩) r _ st1 (hcl.set hi) hl2 hrest
      rw [Nat.add_zero, hn] at this
      exact this
    · cases hc
  | .fork ((j, x) :: r) a b, l, n, st, i, hcl, hc, hf, hi, hk => by
    simp only [FT.first, Option.some.injEq] at hf
    subst hf
    simp only [chQ] at hc
    split at hc
    · rename_i l2 hl2
      simp only [Bool.and_eq_true, decide_eq_true_eq] at hc
      obtain ⟨⟨⟨hn, hfo⟩, ha⟩, hb⟩ := hc
      simp only [ftQ, pickQ, List.map_cons] at hk
      rw [AOpsEB_eq] at hk
      obtain ⟨st1, hs1, hrest⟩ := AOpsE_step (hS _) hk
      obtain ⟨_, oi, hoi, _⟩ := mem_ready.1 hi
      have hget : ops.getD j default = oi := by simp [Array.getD_eq_getD_getElem?, hoi]
      rw [hget] at hs1
      refine ⟨oi, st1, hoi, hs1, ?_⟩
      have hcl2 := planY_closed r _ l2 (hcl.set hi) hl2
      simp only [forkOK, Bool.and_eq_true, Bool.not_eq_true', List.all_eq_true, Bool.or_eq_true, beq_iff_eq] at hfo
      have := planY_sound hS (P := P) (S := S) (K := K) hA (listed' := l2) (f' := n - r.length) (K' := fun s' => ftQ S P (ops.toList.map (·.dst)) K ops a s' ∧ ftQ S P (ops.toList.map (·.dst)) K ops b s') (fun s hs => by
        obtain ⟨m, hm⟩ : ∃ m, n - r.length = m + 1 := ⟨n - r.length - 1, by omega⟩
        rw [hm]
        rw [show n - r.length - 1 = m by omega] at ha hb
        rw [DAnyY]
        intro _
        refine ⟨fun e => (by rw [e] at hfo; cases hfo.1), fun k hk => ?_⟩
        rcases hfo.2 k hk with h | h
        · exact chQ_sound hS hA a l2 m s k hcl2 ha h hk hs.1
        · exact chQ_sound hS hA b l2 m s k hcl2 hb h hk hs.2) r _ st1 (hcl.set hi) hl2 hrest
      rw [show r.length + (n - r.length) = n by omega] at this
      exact this
    · cases hc
theorem ADraw.treeQ {id : Nat} {Q : Exit → AS → Prop} {st : AS} (S T : List Nat) (p0 : List (Nat × Bool)) (n : Nat) (a b : FT) (hm : P.follows .mixedOrders = true)
    (hc : (dstsOk N ops.toList && decide (p0.length + (n + 1) = ops.size) && (match planY ops (modeOf S T) (ancs ops.toList []) p0 (Array.replicate ops.size false) with | some l => forkOK ops l a b && chQ (modeOf S T) ops (ancs ops.toList []) a l n && chQ (modeOf S T) ops (ancs ops.toList []) b l n | none => false)) = true)
    (h : AOpsEB P (ops.toList.map (·.dst)) (fun s' => ftQ (modeOf S T) P (ops.toList.map (·.dst)) (Q .normal) ops a s' ∧ ftQ (modeOf S T) P (ops.toList.map (·.dst)) (Q .normal) ops b s') (pickQ (modeOf S T) ops p0) st) : ADraw P N id ops Q st := by
  simp only [Bool.and_eq_true, decide_eq_true_eq] at hc
  obtain ⟨⟨h1, h2⟩, h3⟩ := hc
  split at h3
  · rename_i l hl
    simp only [Bool.and_eq_true] at h3
    obtain ⟨⟨hfo, ha⟩, hb⟩ := h3
    refine ADraw.of_anyY (S := modeOf S T) hm h1 ?_
    have hA := ancs_ok (ops := ops) ops.toList [] (fun i => by simp) (fun j k hk => by simp at hk)
    have hcl := planY_closed p0 _ l Closed.none hl
    simp only [forkOK, Bool.and_eq_true, Bool.not_eq_true', List.all_eq_true, Bool.or_eq_true, beq_iff_eq] at hfo
    have := planY_sound (modeOf_le S T) (P := P) (S := modeOf S T) (K := Q .normal) hA (listed' := l) (f' := n + 1) (K' := fun s' => ftQ (modeOf S T) P (ops.toList.map (·.dst)) (Q .normal) ops a s' ∧ ftQ (modeOf S T) P (ops.toList.map (·.dst)) (Q .normal) ops b s') (fun s hs => by
      rw [DAnyY]
      intro _
      refine ⟨fun e => (by rw [e] at hfo; cases hfo.1), fun k hk => ?_⟩
      rcases hfo.2 k hk with h | h
      · exact chQ_sound (modeOf_le S T) hA a l n s k hcl ha h hk hs.1
      · exact chQ_sound (modeOf_le S T) hA b l n s k hcl hb h hk hs.2) p0 _ st Closed.none hl (by rw [← AOpsEB_eq]; exact h)
    rw [h2] at this
    exact this
  · cases h3
end
end Go.Al

/- More of the walk's rewritings, as one. -/
namespace Go.Al
theorem axt : (type_of% @ax_scope) ∧
    (type_of% @neS) ∧
    (type_of% @AOpsD_cons_solo) ∧
    (type_of% @List.contains_cons.{0}) ∧
    (type_of% @List.contains_nil.{0}) ∧
    (type_of% @Bool.or_false) ∧
    (type_of% @Bool.or_true) ∧
    (type_of% @Bool.false_or) ∧
    (type_of% @Bool.true_or) ∧
    (type_of% @pickB_nil) ∧
    (type_of% @pickB_zero) ∧
    (type_of% @pickB_succ) ∧
    (type_of% @List.eraseIdx_zero.{0}) ∧
    (type_of% @List.eraseIdx_cons_succ.{0}) ∧
    (type_of% @List.tail_cons.{0}) ∧
    (type_of% @AOpsE_nil) ∧
    (type_of% @AOpsE_cons) ∧
    (type_of% @AOpsE_cons_solo) ∧
    (type_of% @AOpsE_cons_quiet) ∧
    (type_of% @pickN_nil) ∧
    (type_of% @pickN_zero) ∧
    (type_of% @pickN_succ) :=
  ⟨@ax_scope, @neS, @AOpsD_cons_solo, @List.contains_cons.{0}, @List.contains_nil.{0}, @Bool.or_false, @Bool.or_true, @Bool.false_or, @Bool.true_or, @pickB_nil, @pickB_zero, @pickB_succ, @List.eraseIdx_zero.{0}, @List.eraseIdx_cons_succ.{0}, @List.tail_cons.{0}, @AOpsE_nil, @AOpsE_cons, @AOpsE_cons_solo, @AOpsE_cons_quiet, @pickN_nil, @pickN_zero, @pickN_succ⟩
end Go.Al

/- Objects kept; an object sealed ahead of a code. -/
namespace Go.Al
theorem upd_upd {α : Type} (f : Nat → α) (i : Nat) (x y : α) : upd (upd f i x) i y = upd f i y := by
  funext j
  by_cases h : j = i
  · subst h; rw [upd_same, upd_same]
  · rw [upd_ne _ _ h, upd_ne _ _ h, upd_ne _ _ h]
theorem upd_self' {α : Type} {f : Nat → α} {i : Nat} {x : α} (h : f i = x) : upd f i x = f := by
  funext j
  by_cases e : j = i
  · subst e; rw [upd_same, h]
  · rw [upd_ne _ _ e]
/-- The objects that there were are as they were. -/
def Keeps (H : AH) (n : Nat) (H' : AH) (n' : Nat) : Prop := n ≤ n' ∧ ∀ j, j < n → H' j = H j
theorem Keeps.refl (H : AH) (n : Nat) : Keeps H n H n := ⟨Nat.le_refl _, fun _ _ => rfl⟩
theorem Keeps.trans {H H' H'' : AH} {n n' n'' : Nat} (a : Keeps H n H' n') (b : Keeps H' n' H'' n'') : Keeps H n H'' n'' := ⟨Nat.le_trans a.1 b.1, fun j hj => by rw [b.2 j (Nat.lt_of_lt_of_le hj a.1), a.2 j hj]⟩
theorem Keeps.upd {H H' : AH} {n n' : Nat} {x : Option AO} (a : Keeps H n H' n') : Keeps H n (upd H' n' x) (n' + 1) := ⟨Nat.le_succ_of_le a.1, fun j hj => by rw [upd_ne _ _ (by have := a.1; omega), a.2 j hj]⟩
/-- An object is not written any more: from a code on. -/
theorem AWP.shutO {P : Program} {N : Nat} {c : Code} {Q : Exit → AS → Prop} {st : AS} {id t z : Nat} {es : List (List AV)} (hid : st.H id = some (.obj t z es false)) (h : AWP P N c Q { st with H := upd st.H id (some (.obj t z es true)) }) : AWP P N c Q st := by
  intro a w B0 base β hi
  obtain ⟨i1, i2⟩ := hi.shutO hid
  exact wp_mono (h a w B0 base β i1) fun _ _ _ ⟨s, b, k1, k2, k3⟩ => ⟨s, b, k1, i2.trans k2, k3⟩
theorem ALoop.shutO {P : Program} {N : Nat} {c : Code} {Q : Exit → AS → Prop} {st : AS} (id : Nat) {t z : Nat} {es : List (List AV)} (hid : st.H id = some (.obj t z es false)) (h : ALoop P N c Q { st with H := upd st.H id (some (.obj t z es true)) }) : ALoop P N c Q st := AWP.shutO hid h
end Go.Al

/- A region that draws, told order by order where it must be: up to three ways on. -/
namespace Go.Al
/-- Operations in turn; behind some, one of three ways on. -/
inductive FT3 where
  | leaf (p : List (Nat × Bool))
  | fork (p : List (Nat × Bool)) (a b c : FT3)
def FT3.first : FT3 → Option Nat
  | .leaf ((i, _) :: _) => some i
  | .fork ((i, _) :: _) _ _ _ => some i
  | _ => none
section
variable {P : Program} {N : Nat} {ops : Array Oper}
def AFork3 (x y z : AS → Prop) [Tok (x, y, z)] : AS → Prop := fun s => x s ∧ y s ∧ z s
theorem AFork3.intro {x y z : AS → Prop} {s : AS} (h1 : x s) (h2 : y s) (h3 : z s) : AFork3 x y z s := ⟨h1, h2, h3⟩
def ft3 (S : List Nat) (P : Program) (G : List (Option Nat)) (K : AS → Prop) (ops : Array Oper) : FT3 → AS → Prop
  | .leaf p, s => AOpsDB P G K (pickP S ops p) s
  | .fork p a b c, s => AOpsDB P G (AFork3 (ft3 S P G K ops a) (ft3 S P G K ops b) (ft3 S P G K ops c)) (pickP S ops p) s
def forkOK3 (ops : Array Oper) (l : Array Bool) (a b c : FT3) : Bool := !(Region.ready .any ops l).isEmpty && (Region.ready .any ops l).all fun i => a.first == some i || b.first == some i || c.first == some i
def ch3 (S : List Nat) (ops : Array Oper) (A : List (List Nat)) : FT3 → Array Bool → Nat → Bool
  | .leaf ((i, _) :: r), l, n => r.length == n && (match planB ops (fun i => S.contains i) A r (l.setIfInBounds i true) with | some l2 => (Region.ready .any ops l2).isEmpty | none => false)
  | .fork ((i, _) :: r) a b c, l, n => (match planB ops (fun i => S.contains i) A r (l.setIfInBounds i true) with | some l2 => decide (r.length < n) && forkOK3 ops l2 a b c && ch3 S ops A a l2 (n - r.length - 1) && ch3 S ops A b l2 (n - r.length - 1) && ch3 S ops A c l2 (n - r.length - 1) | none => false)
  | _, _, _ => false
theorem ch3_sound {S : List Nat} {A : List (List Nat)} (hA : ∀ j, ∀ k ∈ A.getD j [], Anc ops j k) {K : AS → Prop} : ∀ (t : FT3) (l : Array Bool) (n : Nat) (st : AS) (i : Nat), Closed ops l → ch3 S ops A t l n = true → t.first = some i → i ∈ Region.ready .any ops l →
    ft3 S P (ops.toList.map (·.dst)) K ops t st → ∃ o st', ops[i]? = some o ∧ DStepX P (ops.toList.map (·.dst)) (S.contains i) o st st' ∧ DAny P ops (fun i => S.contains i) K n (l.setIfInBounds i true) st'
  | .leaf [], l, n, st, i, _, hc, _, _, _ => by simp [ch3] at hc
  | .fork [] a b c, l, n, st, i, _, hc, _, _, _ => by simp [ch3] at hc
  | .leaf ((j, x) :: r), l, n, st, i, hcl, hc, hf, hi, hk => by
    simp only [FT3.first, Option.some.injEq] at hf
    subst hf
    simp only [ch3, Bool.and_eq_true, beq_iff_eq] at hc
    obtain ⟨hn, hc⟩ := hc
    split at hc
    · rename_i l2 hl2
      simp only [ft3, pickP, List.map_cons] at hk
      rw [AOpsDB_eq] at hk
      obtain ⟨st1, hs1, hrest⟩ := AOpsD_step hk
      obtain ⟨_, oi, hoi, _⟩ := mem_ready.1 hi
      have hget : ops.getD j default = oi := by simp [Array.getD_eq_getD_getElem?, hoi]
      rw [hget] at hs1
      refine ⟨oi, st1, hoi, hs1, ?_⟩
      have := plan_sound (P := P) (S := fun i => S.contains i) (K := K) hA (listed' := l2) (f' := 0) (K' := K) (fun s hs => by
        simp only [DAny]
        intro _
        exact ⟨by simpa using hc, hs⟩) r _ st1 (hcl.set hi) hl2 hrest
      rw [Nat.add_zero, hn] at this
      exact this
    · cases hc
  | .fork ((j, x) :: r) a b c, l, n, st, i, hcl, hc, hf, hi, hk => by
    simp only [FT3.first, Option.some.injEq] at hf
    subst hf
    simp only [ch3] at hc
    split at hc
    · rename_i l2 hl2
      simp only [Bool.and_eq_true, decide_eq_true_eq] at hc
      obtain ⟨⟨⟨⟨hn, hfo⟩, ha⟩, hb⟩, hcc⟩ := hc
      simp only [ft3, pickP, List.map_cons] at hk
      rw [AOpsDB_eq] at hk
      obtain ⟨st1, hs1, hrest⟩ := AOpsD_step hk
      obtain ⟨_, oi, hoi, _⟩ := mem_ready.1 hi
      have hget : ops.getD j default = oi := by simp [Array.getD_eq_getD_getElem?, hoi]
      rw [hget] at hs1
      refine ⟨oi, st1, hoi, hs1, ?_⟩
      have hcl2 := planB_closed r _ l2 (hcl.set hi) hl2
      simp only [forkOK3, Bool.and_eq_true, Bool.not_eq_true', List.all_eq_true, Bool.or_eq_true, beq_iff_eq] at hfo
      have := plan_sound (P := P) (S := fun i => S.contains i) (K := K) hA (listed' := l2) (f' := n - r.length) (K' := AFork3 (ft3 S P (ops.toList.map (·.dst)) K ops a) (ft3 S P (ops.toList.map (·.dst)) K ops b) (ft3 S P (ops.toList.map (·.dst)) K ops c)) (fun s hs => by
        obtain ⟨m, hm⟩ : ∃ m, n - r.length = m + 1 := ⟨n - r.length - 1, by omega⟩
        rw [hm]
        rw [show n - r.length - 1 = m by omega] at ha hb hcc
        rw [DAny]
        intro _
        refine ⟨fun e => (by rw [e] at hfo; cases hfo.1), fun k hk => ?_⟩
        rcases hfo.2 k hk with (h | h) | h
        · exact ch3_sound hA a l2 m s k hcl2 ha h hk hs.1
        · exact ch3_sound hA b l2 m s k hcl2 hb h hk hs.2.1
        · exact ch3_sound hA c l2 m s k hcl2 hcc h hk hs.2.2) r _ st1 (hcl.set hi) hl2 hrest
      rw [show r.length + (n - r.length) = n by omega] at this
      exact this
    · cases hc
theorem ADraw.tree3 {id : Nat} {Q : Exit → AS → Prop} {st : AS} (S : List Nat) (p0 : List (Nat × Bool)) (n : Nat) (a b c : FT3) (hm : P.follows .mixedOrders = true)
    (hc : (dstsOk N ops.toList && decide (p0.length + (n + 1) = ops.size) && (match planB ops (fun i => S.contains i) (ancs ops.toList []) p0 (Array.replicate ops.size false) with | some l => forkOK3 ops l a b c && ch3 S ops (ancs ops.toList []) a l n && ch3 S ops (ancs ops.toList []) b l n && ch3 S ops (ancs ops.toList []) c l n | none => false)) = true)
    (h : AOpsDB P (ops.toList.map (·.dst)) (AFork3 (ft3 S P (ops.toList.map (·.dst)) (Q .normal) ops a) (ft3 S P (ops.toList.map (·.dst)) (Q .normal) ops b) (ft3 S P (ops.toList.map (·.dst)) (Q .normal) ops c)) (pickP S ops p0) st) : ADraw P N id ops Q st := by
  simp only [Bool.and_eq_true, decide_eq_true_eq] at hc
  obtain ⟨⟨h1, h2⟩, h3⟩ := hc
  split at h3
  · rename_i l hl
    simp only [Bool.and_eq_true] at h3
    obtain ⟨⟨⟨hfo, ha⟩, hb⟩, hcc⟩ := h3
    refine ADraw.of_any (S := fun i => S.contains i) hm h1 ?_
    have hA := ancs_ok (ops := ops) ops.toList [] (fun i => by simp) (fun j k hk => by simp at hk)
    have hcl := planB_closed p0 _ l Closed.none hl
    simp only [forkOK3, Bool.and_eq_true, Bool.not_eq_true', List.all_eq_true, Bool.or_eq_true, beq_iff_eq] at hfo
    have := plan_sound (P := P) (S := fun i => S.contains i) (K := Q .normal) hA (listed' := l) (f' := n + 1) (K' := AFork3 (ft3 S P (ops.toList.map (·.dst)) (Q .normal) ops a) (ft3 S P (ops.toList.map (·.dst)) (Q .normal) ops b) (ft3 S P (ops.toList.map (·.dst)) (Q .normal) ops c)) (fun s hs => by
      rw [DAny]
      intro _
      refine ⟨fun e => (by rw [e] at hfo; cases hfo.1), fun k hk => ?_⟩
      rcases hfo.2 k hk with (h | h) | h
      · exact ch3_sound hA a l n s k hcl ha h hk hs.1
      · exact ch3_sound hA b l n s k hcl hb h hk hs.2.1
      · exact ch3_sound hA c l n s k hcl hcc h hk hs.2.2) p0 _ st Closed.none hl (by rw [← AOpsDB_eq]; exact h)
    rw [h2] at this
    exact this
  · cases h3
end
end Go.Al

/- What holds no object reads on wherever its own cells stay. -/
namespace Go.Al
/-- Cells of w that are not of B stay, and are not of B'. -/
def Calm (w : World) (B : Nat → Nat → Prop) (w' : World) (B' : Nat → Nat → Prop) : Prop := ∀ b o u, w.cell? ⟨b, o, none⟩ = some u → ¬ B b o → w'.cell? ⟨b, o, none⟩ = some u ∧ ¬ B' b o
section
variable {w w' : World} {B B' : Nat → Nat → Prop} {β β' : Nat → Nat} {n n' : Nat}
mutual
theorem RepV.calm (hp : Calm w B w' B') : ∀ (a : AV) (v : Value), noIds a = true → RepV w B β n a v → RepV w' B' β' n' a v
  | .sc u, v, _, h => by simpa only [RepV] using h
  | .any, _, _, _ => by simp only [RepV]
  | .agg cs, v, k, h => by
    simp only [RepV] at h ⊢
    obtain ⟨vs, hv, h⟩ := h
    exact ⟨vs, hv, RepC.calm hp cs vs (by simpa [Al.noIds] using k) h⟩
  | .tup cs, v, k, h => by
    simp only [RepV] at h ⊢
    obtain ⟨vs, hv, h⟩ := h
    exact ⟨vs, hv, RepL.calm hp cs vs (by simpa [Al.noIds] using k) h⟩
  | .lst z es, v, k, h => by
    simp only [RepV] at h ⊢
    rcases h with h | ⟨b, o, c, hv, hc, h⟩
    · exact .inl h
    · exact .inr ⟨b, o, c, hv, hc, RepEs.calm hp z b o es (by simpa [Al.noIds] using k) h⟩
  | .sl id z off m, v, k, h => by simp [Al.noIds] at k
  | .ptr id z i off, v, k, h => by simp [Al.noIds] at k
  | .fp cs, v, k, h => by
    simp only [RepV] at h ⊢
    obtain ⟨b, o, hv, h⟩ := h
    exact ⟨b, o, hv, RepF.calm hp b o cs (by simpa [Al.noIds] using k) h⟩
  | .fn f cs, v, k, h => by
    simp only [RepV] at h ⊢
    obtain ⟨vs, hv, h⟩ := h
    exact ⟨vs, hv, RepL.calm hp cs vs (by simpa [Al.noIds] using k) h⟩
  | .mp id, v, k, h => by simp [Al.noIds] at k
  | .slc id z off m c, v, k, h => by simp [Al.noIds] at k
theorem RepL.calm (hp : Calm w B w' B') : ∀ (cs : List AV) (vs : List Value), noIdsL cs = true → RepL w B β n cs vs → RepL w' B' β' n' cs vs
  | [], vs, _, h => by simpa only [RepL] using h
  | c :: cs, vs, k, h => by
    simp only [RepL] at h ⊢
    simp only [noIdsL, Bool.and_eq_true] at k
    obtain ⟨u, us, hv, h1, h2⟩ := h
    exact ⟨u, us, hv, RepV.calm hp c u k.1 h1, RepL.calm hp cs us k.2 h2⟩
theorem RepC.calm (hp : Calm w B w' B') : ∀ (cs : List AV) (vs : List Value), noIdsL cs = true → RepC w B β n cs vs → RepC w' B' β' n' cs vs
  | [], vs, _, h => by simpa only [RepC] using h
  | c :: cs, vs, k, h => by
    simp only [RepC] at h ⊢
    simp only [noIdsL, Bool.and_eq_true] at k
    obtain ⟨u, us, hv, h1, h0, h2⟩ := h
    exact ⟨u, us, hv, RepV.calm hp c u k.1 h1, h0, RepC.calm hp cs us k.2 h2⟩
theorem RepF.calm (hp : Calm w B w' B') (b o : Nat) : ∀ (cs : List AV), noIdsL cs = true → RepF w B β n b o cs → RepF w' B' β' n' b o cs
  | [], _, _ => by simp only [RepF]
  | c :: cs, k, h => by
    simp only [RepF] at h ⊢
    simp only [noIdsL, Bool.and_eq_true] at k
    obtain ⟨⟨u, hu, h1, h0⟩, hb, h2⟩ := h
    obtain ⟨q1, q2⟩ := hp b o u hu hb
    exact ⟨⟨u, q1, RepV.calm hp c u k.1 h1, h0⟩, q2, RepF.calm hp b (o + 1) cs k.2 h2⟩
theorem RepEs.calm (hp : Calm w B w' B') (z b o : Nat) : ∀ (es : List (List AV)), noIdsE es = true → RepEs w B β n z b o es → RepEs w' B' β' n' z b o es
  | [], _, _ => by simp only [RepEs]
  | e :: es, k, h => by
    simp only [RepEs] at h ⊢
    simp only [noIdsE, Bool.and_eq_true] at k
    exact ⟨h.1, RepF.calm hp b o e k.1 h.2.1, RepEs.calm hp z b (o + z) es k.2 h.2.2⟩
end
end
end Go.Al

/- A law's arguments: rows of structs that hold rows of numbers. -/
namespace Go.Al
open Go.ChangeShapes Go.WideShapes
/-- A cell: a number or a bool, or a row of flat elements. -/
inductive KD where
  | sc (k : Option IntKind)
  | row (ks : List (Option IntKind))
def nestFs (P : Program) (K : Nat) : List Field → Nat → Option (List KD)
  | [], _ => some []
  | f :: fs, off => match P.underlying f.type with
    | some (.slice e) => (flatK P K e).bind fun ks => if f.offset = off ∧ P.cellsOf f.type = 1 ∧ P.cellsOf e = ks.length ∧ 0 < ks.length then (nestFs P K fs (off + 1)).map (KD.row ks :: ·) else none
    | _ => (flatK P K f.type).bind fun ks => if f.offset = off ∧ P.cellsOf f.type = ks.length then (nestFs P K fs (off + ks.length)).map (ks.map KD.sc ++ ·) else none
def nestK (P : Program) (K : Nat) (t : TypeId) : Option (List KD) := match P.underlying t with
  | some (.struct fs) => (nestFs P K fs.toList 0).bind fun ks => if P.cellsOf t = ks.length then some ks else none
  | _ => none
def FitN : List KD → List AV → Prop
  | [], cs => cs = []
  | .sc none :: ks, cs => ∃ b r, cs = .sc (.bool b) :: r ∧ FitN ks r
  | .sc (some k) :: ks, cs => ∃ n r, cs = .sc (.int k n) :: r ∧ (Lit.int k n).wf = true ∧ FitN ks r
  | .row kr :: ks, cs => ∃ (es : List (List Value)) (r : List AV), cs = .lst kr.length (es.map fun e => e.map .sc) :: r ∧ (∀ x ∈ es, FitK kr x) ∧ es.length ≤ maxLen ∧ FitN ks r
theorem FitN.flat : ∀ {ks : List (Option IntKind)} {x : List Value}, FitK ks x → FitN (ks.map KD.sc) (x.map .sc)
  | [], x, h => by simp only [FitK] at h; subst h; simp [FitN]
  | none :: ks, x, h => by simp only [FitK] at h; obtain ⟨b, r, rfl, h⟩ := h; simp only [List.map_cons, FitN]; exact ⟨b, _, rfl, FitN.flat h⟩
  | some k :: ks, x, h => by simp only [FitK] at h; obtain ⟨b, r, rfl, hw, h⟩ := h; simp only [List.map_cons, FitN]; exact ⟨b, _, rfl, hw, FitN.flat h⟩
theorem FitN.append : ∀ {ks ks' : List KD} {cs cs' : List AV}, FitN ks cs → FitN ks' cs' → FitN (ks ++ ks') (cs ++ cs')
  | [], ks', cs, cs', h, h' => by simp only [FitN] at h; subst h; simpa using h'
  | .sc none :: ks, ks', cs, cs', h, h' => by
    simp only [FitN] at h
    obtain ⟨b, r, rfl, h⟩ := h
    simp only [List.cons_append, FitN]
    exact ⟨b, r ++ cs', rfl, h.append h'⟩
  | .sc (some k) :: ks, ks', cs, cs', h, h' => by
    simp only [FitN] at h
    obtain ⟨b, r, rfl, hw, h⟩ := h
    simp only [List.cons_append, FitN]
    exact ⟨b, r ++ cs', rfl, hw, h.append h'⟩
  | .row kr :: ks, ks', cs, cs', h, h' => by
    simp only [FitN] at h
    obtain ⟨es, r, rfl, h1, h2, h⟩ := h
    simp only [List.cons_append, FitN]
    exact ⟨es, r ++ cs', rfl, h1, h2, h.append h'⟩
theorem FitN.len : ∀ {ks : List KD} {cs : List AV}, FitN ks cs → cs.length = ks.length
  | [], cs, h => by simp only [FitN] at h; subst h; rfl
  | .sc none :: ks, cs, h => by simp only [FitN] at h; obtain ⟨b, r, rfl, h⟩ := h; simp [h.len]
  | .sc (some k) :: ks, cs, h => by simp only [FitN] at h; obtain ⟨b, r, rfl, hw, h⟩ := h; simp [h.len]
  | .row kr :: ks, cs, h => by simp only [FitN] at h; obtain ⟨es, r, rfl, _, _, h⟩ := h; simp [h.len]
section
variable {H : Type} {enc : TypeId × Value → H} {P : Program} {w : World} {base : Nat} {spare : Nat → Bool} {held : Bool}
/-- A row of flat elements, read. -/
theorem slice_fit {fuel K : Nat} {t e : TypeId} {ks : List (Option IntKind)} {cs : List Value} {x : DataW H × List MemPlace} (hs : ∀ b, spare b = true) (hu : P.underlying t = some (.slice e)) (hk : flatK P K e = some ks) (hc : P.cellsOf e = ks.length) (h0 : 0 < ks.length)
    (h : DataW.trod enc P w base spare held fuel t cs = some x) :
    ∃ (es : List (List Value)) (v : Value), cs = [v] ∧ One v ∧ (∀ x ∈ es, FitK ks x) ∧ es.length ≤ maxLen ∧ ∀ (β : Nat → Nat) (n : Nat), RepV w (fun _ _ => False) β n (.lst ks.length (es.map fun e => e.map .sc)) v := by
  rcases DataW.trod_slice hu h with ⟨rfl, _⟩ | ⟨a', len, cap, elems, rest, m, _, rfl, _, hb, hl, hm, hlen, hel, hre, _⟩
  · exact ⟨[], _, rfl, rfl, by simp, by simp, fun β n => by simp only [RepV]; exact .inl ⟨⟨none, rfl⟩, rfl⟩⟩
  · obtain ⟨hr1, hr2⟩ := hre (hs _)
    have spot : ∀ {y : DataW H × List MemPlace}, (w.cells? base (a'.add (0 * P.cellsOf e)) (P.cellsOf e)).bind (DataW.trod enc P w base spare held m e) = some y → a'.spot = none := by
      intro y hy
      obtain ⟨z, hz, _⟩ := Option.bind_eq_some_iff.1 hy
      obtain ⟨_, hzl, hzc⟩ := World.cells?_some hz
      have h1 := hzc 0 (by omega)
      rw [List.getElem?_eq_getElem (by omega)] at h1
      have h2 := World.cell?_spot h1
      simpa [Addr.add] using h2
    by_cases hcap : cap = 0
    · obtain rfl : len = 0 := by omega
      subst hcap
      exact ⟨[], _, rfl, rfl, by simp, by simp, fun β n => by simp only [RepV]; exact .inl ⟨⟨some a', rfl⟩, rfl⟩⟩
    · have hsp : a'.spot = none := by
        by_cases hl0 : len = 0
        · have := hr2 0 (by omega)
          obtain ⟨y, hy⟩ : ∃ y, rest[0]? = some y := ⟨_, List.getElem?_eq_getElem (by omega)⟩
          rw [hy, hl0] at this
          exact spot this
        · have := hel 0 (by omega)
          rw [List.getElem?_eq_getElem (by omega)] at this
          exact spot this
      have ha : a' = ⟨a'.block, a'.off, none⟩ := by cases a'; simp at hsp; subst hsp; rfl
      rw [hc] at hel
      have each : ∀ i, i < len → ∃ x : List Value, FitK ks x ∧ ∀ j u, x[j]? = some u → w.cell? ⟨a'.block, a'.off + i * ks.length + j, none⟩ = some u := by
        intro i hi
        have := hel i hi
        rw [List.getElem?_eq_getElem (by omega)] at this
        obtain ⟨x, hx, hy⟩ := Option.bind_eq_some_iff.1 this
        refine ⟨x, flat_fit K hy hk, fun j u hj => ?_⟩
        obtain ⟨_, hxl, hxc⟩ := World.cells?_some hx
        have hjl : j < ks.length := by have := (List.getElem?_eq_some_iff.1 hj).1; omega
        have := hxc j hjl
        rw [ha] at this
        rw [← hj, ← this, Addr.add_lit, Addr.add_lit]
      have build : ∀ k, k ≤ len → ∃ es : List (List Value), es.length = k ∧ (∀ x ∈ es, FitK ks x) ∧ ∀ (β : Nat → Nat) (n : Nat), RepEs w (fun _ _ => False) β n ks.length a'.block (a'.off + (len - k) * ks.length) (es.map fun e => e.map .sc) := by
        intro k
        induction k with
        | zero => intro _; exact ⟨[], rfl, by simp, fun β n => by simp [RepEs]⟩
        | succ k ih =>
          intro hk'
          obtain ⟨es, h1, h2, h3⟩ := ih (by omega)
          obtain ⟨x, hx1, hx2⟩ := each (len - (k + 1)) (by omega)
          refine ⟨x :: es, by simp [h1], by intro y hy; rcases List.mem_cons.1 hy with rfl | hy; exact hx1; exact h2 y hy, fun β n => ?_⟩
          simp only [List.map_cons, RepEs]
          refine ⟨by rw [List.length_map]; exact hx1.len, ?_, ?_⟩
          · exact RepF.of_cells (B := fun _ _ => False) (vs := x) hx1.repC (fun j u hj => hx2 j u hj) (by simp) ⟨fun _ _ _ a b => ⟨a, b⟩, fun _ _ a => a⟩
          · have := h3 β n
            rwa [show a'.off + (len - (k + 1)) * ks.length + ks.length = a'.off + (len - k) * ks.length by
              rw [Nat.add_assoc, ← Nat.succ_mul, show (len - (k + 1)).succ = len - k by omega]]
      obtain ⟨es, h1, h2, h3⟩ := build len (Nat.le_refl _)
      refine ⟨es, _, rfl, rfl, h2, by omega, fun β n => ?_⟩
      simp only [RepV]
      refine .inr ⟨a'.block, a'.off, cap, by rw [← ha, List.length_map, h1], by rw [List.length_map]; omega, ?_⟩
      have := h3 β n
      simpa using this
theorem nestFs_fit {K n : Nat} {cs : List Value} (hs : ∀ b, spare b = true) :
    ∀ (fs : List Field) (off : Nat) (ks : List KD), nestFs P K fs off = some ks → (∀ f ∈ fs, ∃ x, DataW.trod enc P w base spare held n f.type ((cs.drop f.offset).take (P.cellsOf f.type)) = some x) →
      ∃ avs, FitN ks avs ∧ ∀ (β : Nat → Nat) (n : Nat), RepC w (fun _ _ => False) β n avs ((cs.drop off).take ks.length)
  | [], off, ks, h, _ => by simp only [nestFs, Option.some.injEq] at h; subst h; exact ⟨[], by simp [FitN], fun β n => by simp [RepC]⟩
  | f :: fs, off, ks, h, hx => by
    have flat : ∀ ks, (flatK P K f.type).bind (fun ks => if f.offset = off ∧ P.cellsOf f.type = ks.length then (nestFs P K fs (off + ks.length)).map (ks.map KD.sc ++ ·) else none) = some ks → ∃ avs, FitN ks avs ∧ ∀ (β : Nat → Nat) (n : Nat), RepC w (fun _ _ => False) β n avs ((cs.drop off).take ks.length) := by
      intro ks h
      obtain ⟨k1, h1, h⟩ := Option.bind_eq_some_iff.1 h
      split at h
      · rename_i hc
        obtain ⟨k2, h2, rfl⟩ := Option.map_eq_some_iff.1 h
        obtain ⟨x, hx1⟩ := hx f (by simp)
        have f1 := flat_fit K hx1 h1
        rw [hc.1, hc.2] at f1
        obtain ⟨avs, f2, f3⟩ := nestFs_fit hs fs (off + k1.length) k2 h2 (fun g hg => hx g (by simp [hg]))
        have e : (cs.drop off).take (k1.map KD.sc ++ k2).length = (cs.drop off).take k1.length ++ (cs.drop (off + k1.length)).take k2.length := by
          rw [List.length_append, List.length_map, List.take_add, List.drop_drop]
        rw [e]
        exact ⟨_, (FitN.flat f1).append f2, fun β n => f1.repC.append (f3 β n)⟩
      · cases h
    simp only [nestFs] at h
    split at h
    · rename_i e hu
      obtain ⟨k1, h1, h⟩ := Option.bind_eq_some_iff.1 h
      split at h
      · rename_i hc
        obtain ⟨k2, h2, rfl⟩ := Option.map_eq_some_iff.1 h
        obtain ⟨x, hx1⟩ := hx f (by simp)
        rw [hc.1, hc.2.1] at hx1
        obtain ⟨es, v, e1, e2, e3, e4, e5⟩ := slice_fit hs hu h1 hc.2.2.1 hc.2.2.2 hx1
        obtain ⟨avs, f2, f3⟩ := nestFs_fit hs fs (off + 1) k2 h2 (fun g hg => hx g (by simp [hg]))
        have e : (cs.drop off).take (KD.row k1 :: k2).length = v :: (cs.drop (off + 1)).take k2.length := by
          rw [List.length_cons, Nat.add_comm, List.take_add, e1, List.drop_drop]; rfl
        rw [e]
        refine ⟨(.lst k1.length (es.map fun e => e.map .sc) : AV) :: avs, ?_, fun β n => ?_⟩
        · simp only [FitN]; exact ⟨es, avs, rfl, e3, e4, f2⟩
        · simp only [RepC]; exact ⟨v, _, rfl, e5 β n, e2, f3 β n⟩
      · cases h
    · exact flat ks h
theorem nest_fit {K fuel : Nat} {t : TypeId} {ks : List KD} {cs : List Value} {x : DataW H × List MemPlace} (hs : ∀ b, spare b = true) (hk : nestK P K t = some ks) (h : DataW.trod enc P w base spare held fuel t cs = some x) :
    ∃ avs, FitN ks avs ∧ ∀ (β : Nat → Nat) (n : Nat), RepC w (fun _ _ => False) β n avs cs := by
  unfold nestK at hk
  split at hk
  · rename_i fs hu
    obtain ⟨k1, h1, hk⟩ := Option.bind_eq_some_iff.1 hk
    split at hk
    · rename_i hc
      cases hk
      obtain ⟨xs, n, _, _, hl, hxl, hf⟩ := DataW.trod_struct hu h
      have := nestFs_fit (cs := cs) (n := n) hs fs.toList 0 ks h1 (fun f hfm => by
        obtain ⟨i, hi1, hi2⟩ := List.mem_iff_getElem.1 hfm
        have hi : fs[i]? = some f := by rw [← Array.getElem?_toList, List.getElem?_eq_getElem hi1, hi2]
        have := hf i f hi
        rw [List.getElem?_eq_getElem (by rw [hxl]; simpa using hi1)] at this
        exact ⟨_, this⟩)
      rw [List.drop_zero, List.take_of_length_le (by rw [hl, hc]; exact Nat.le_refl _)] at this
      exact this
    · cases hk
  · cases hk
/-- A row of structs that hold rows, handed over. -/
theorem rowN_open {r : Reach} {b0 : Nat} {t e K : Nat} {ks : List KD} {v : Value} {d : DataW H} {ps : List MemPlace} (hs : ∀ b, spare b = true) (hu : P.underlying t = some (.slice e)) (hk : nestK P K e = some ks) (hc : P.cellsOf e = ks.length)
    (hv : Value.okWide P w r b0 t v) (h : DataW.Trod enc P w base spare held t v d ps) :
    ∃ es : List (List AV), (∀ x ∈ es, FitN ks x) ∧ es.length ≤ maxLen ∧ ∀ (β : Nat → Nat) (n : Nat), RepV w (fun _ _ => False) β n (.lst ks.length es) v := by
  obtain ⟨a, len, cap, rfl⟩ := okWide_slice hu hv
  obtain ⟨fuel, hf⟩ := h
  rcases DataW.trod_slice hu hf with ⟨hcs, _⟩ | ⟨a', len', cap', elems, rest, m, _, hcs, _, hb, hl, hm, hlen, hel, _, _⟩
  · simp [Value.cells] at hcs
    obtain ⟨rfl, rfl, rfl⟩ := hcs
    exact ⟨[], by simp, by simp, fun β n => by simp only [RepV]; exact .inl ⟨⟨none, rfl⟩, trivial⟩⟩
  · simp [Value.cells] at hcs
    obtain ⟨rfl, rfl, rfl⟩ := hcs
    have hsp : a'.spot = none := by
      simp only [Value.okWide, hu, Cell.okWide, Cell.ok] at hv
      exact hv.2.2.2.1
    have ha : a' = ⟨a'.block, a'.off, none⟩ := by cases a'; simp at hsp; subst hsp; rfl
    rw [hc] at hel
    have each : ∀ i, i < len → ∃ (x : List Value) (avs : List AV), FitN ks avs ∧ (∀ (β : Nat → Nat) (n : Nat), RepC w (fun _ _ => False) β n avs x) ∧ ∀ j u, x[j]? = some u → w.cell? ⟨a'.block, a'.off + i * ks.length + j, none⟩ = some u := by
      intro i hi
      have := hel i hi
      rw [List.getElem?_eq_getElem (by omega)] at this
      obtain ⟨x, hx, hy⟩ := Option.bind_eq_some_iff.1 this
      obtain ⟨avs, k1, k2⟩ := nest_fit hs hk hy
      refine ⟨x, avs, k1, k2, fun j u hj => ?_⟩
      obtain ⟨_, hxl, hxc⟩ := World.cells?_some hx
      have hjl : j < ks.length := by have := (List.getElem?_eq_some_iff.1 hj).1; omega
      have := hxc j hjl
      rw [ha] at this
      rw [← hj, ← this, Addr.add_lit, Addr.add_lit]
    have build : ∀ k, k ≤ len → ∃ es : List (List AV), es.length = k ∧ (∀ x ∈ es, FitN ks x) ∧ ∀ (β : Nat → Nat) (n : Nat), RepEs w (fun _ _ => False) β n ks.length a'.block (a'.off + (len - k) * ks.length) es := by
      intro k
      induction k with
      | zero => intro _; exact ⟨[], rfl, by simp, fun β n => by simp [RepEs]⟩
      | succ k ih =>
        intro hk'
        obtain ⟨es, h1, h2, h3⟩ := ih (by omega)
        obtain ⟨x, avs, hx0, hx1, hx2⟩ := each (len - (k + 1)) (by omega)
        refine ⟨avs :: es, by simp [h1], by intro y hy; rcases List.mem_cons.1 hy with rfl | hy; exact hx0; exact h2 y hy, fun β n => ?_⟩
        simp only [RepEs]
        refine ⟨hx0.len, ?_, ?_⟩
        · exact RepF.of_cells (B := fun _ _ => False) (vs := x) (hx1 β n) (fun j u hj => hx2 j u hj) (by simp) ⟨fun _ _ _ a b => ⟨a, b⟩, fun _ _ a => a⟩
        · have := h3 β n
          rwa [show a'.off + (len - (k + 1)) * ks.length + ks.length = a'.off + (len - k) * ks.length by
            rw [Nat.add_assoc, ← Nat.succ_mul, show (len - (k + 1)).succ = len - k by omega]]
    obtain ⟨es, h1, h2, h3⟩ := build len (Nat.le_refl _)
    refine ⟨es, h2, by omega, fun β n => ?_⟩
    simp only [RepV]
    refine .inr ⟨a'.block, a'.off, cap, by rw [← ha, h1], by omega, ?_⟩
    have := h3 β n
    simpa using this
end
theorem rowsN_of {α : Type} {ks : List KD} (f : α → List AV) (good : α → Prop) (h : ∀ x, FitN ks x → ∃ a, good a ∧ x = f a) : ∀ {es : List (List AV)}, (∀ x ∈ es, FitN ks x) → ∃ l : List α, es = l.map f ∧ (∀ a ∈ l, good a) ∧ l.length = es.length
  | [], _ => ⟨[], rfl, by simp, rfl⟩
  | x :: es, hx => by
    obtain ⟨a, h1, h2⟩ := h x (hx x (by simp))
    obtain ⟨l, h3, h4, h5⟩ := rowsN_of f good h (es := es) (fun y hy => hx y (by simp [hy]))
    exact ⟨a :: l, by simp [h2, h3], by intro b hb; rcases List.mem_cons.1 hb with rfl | hb; exact h1; exact h4 b hb, by simp [h5]⟩
end Go.Al

/- A call that keeps all objects may be told as one that changes nothing: the new ones are forgotten. Conditions: its answer knows no object. -/
namespace Go.Al
section
variable {w w' : World} {B B' : Nat → Nat → Prop} {β β' : Nat → Nat} {n n' : Nat}
mutual
theorem RepV.bound : ∀ (a : AV) (v v' : Value), RepV w B β n a v → RepV w' B' β' n' a v' → RepV w' B' β' n a v'
  | .sc u, v, v', _, h => by simpa only [RepV] using h
  | .any, _, _, _, _ => by simp only [RepV]
  | .agg cs, v, v', h1, h2 => by
    simp only [RepV] at h1 h2 ⊢
    obtain ⟨vs, _, g1⟩ := h1
    obtain ⟨vs', e, g2⟩ := h2
    exact ⟨vs', e, RepC.bound cs vs vs' g1 g2⟩
  | .tup cs, v, v', h1, h2 => by
    simp only [RepV] at h1 h2 ⊢
    obtain ⟨vs, _, g1⟩ := h1
    obtain ⟨vs', e, g2⟩ := h2
    exact ⟨vs', e, RepL.bound cs vs vs' g1 g2⟩
  | .lst z es, v, v', h1, h2 => by
    simp only [RepV] at h1 h2 ⊢
    rcases h2 with h2 | ⟨b', o', c', e1, e2, e3⟩
    · exact .inl h2
    · refine .inr ⟨b', o', c', e1, e2, ?_⟩
      rcases h1 with ⟨_, rfl⟩ | ⟨b, o, c, _, _, g3⟩
      · simp only [RepEs]
      · exact RepEs.bound es b o b' o' g3 e3
  | .sl id z off m, v, v', h1, h2 => by
    simp only [RepV] at h1 h2 ⊢
    exact ⟨h1.1, h2.2⟩
  | .ptr id z i off, v, v', h1, h2 => by
    simp only [RepV] at h1 h2 ⊢
    exact ⟨h1.1, h2.2⟩
  | .fp cs, v, v', h1, h2 => by
    simp only [RepV] at h1 h2 ⊢
    obtain ⟨b, o, _, g1⟩ := h1
    obtain ⟨b', o', e, g2⟩ := h2
    exact ⟨b', o', e, RepF.bound cs b o b' o' g1 g2⟩
  | .fn f cs, v, v', h1, h2 => by
    simp only [RepV] at h1 h2 ⊢
    obtain ⟨vs, _, g1⟩ := h1
    obtain ⟨vs', e, g2⟩ := h2
    exact ⟨vs', e, RepL.bound cs vs vs' g1 g2⟩
  | .mp id, v, v', h1, h2 => by
    simp only [RepV] at h1 h2 ⊢
    exact ⟨h1.1, h2.2⟩
  | .slc id z off m c, v, v', h1, h2 => by
    simp only [RepV] at h1 h2 ⊢
    exact ⟨h1.1, h2.2⟩
theorem RepL.bound : ∀ (cs : List AV) (vs vs' : List Value), RepL w B β n cs vs → RepL w' B' β' n' cs vs' → RepL w' B' β' n cs vs'
  | [], _, _, _, h => by simpa only [RepL] using h
  | c :: cs, vs, vs', h1, h2 => by
    simp only [RepL] at h1 h2 ⊢
    obtain ⟨u, us, _, g1, g2⟩ := h1
    obtain ⟨u', us', e, k1, k2⟩ := h2
    exact ⟨u', us', e, RepV.bound c u u' g1 k1, RepL.bound cs us us' g2 k2⟩
theorem RepC.bound : ∀ (cs : List AV) (vs vs' : List Value), RepC w B β n cs vs → RepC w' B' β' n' cs vs' → RepC w' B' β' n cs vs'
  | [], _, _, _, h => by simpa only [RepC] using h
  | c :: cs, vs, vs', h1, h2 => by
    simp only [RepC] at h1 h2 ⊢
    obtain ⟨u, us, _, g1, _, g2⟩ := h1
    obtain ⟨u', us', e, k1, ko, k2⟩ := h2
    exact ⟨u', us', e, RepV.bound c u u' g1 k1, ko, RepC.bound cs us us' g2 k2⟩
theorem RepF.bound : ∀ (cs : List AV) (b o b' o' : Nat), RepF w B β n b o cs → RepF w' B' β' n' b' o' cs → RepF w' B' β' n b' o' cs
  | [], _, _, _, _, _, _ => by simp only [RepF]
  | c :: cs, b, o, b', o', h1, h2 => by
    simp only [RepF] at h1 h2 ⊢
    obtain ⟨⟨u, _, g1, _⟩, _, g2⟩ := h1
    obtain ⟨⟨u', ku, k1, ko⟩, kb, k2⟩ := h2
    exact ⟨⟨u', ku, RepV.bound c u u' g1 k1, ko⟩, kb, RepF.bound cs b (o + 1) b' (o' + 1) g2 k2⟩
theorem RepEs.bound : ∀ (es : List (List AV)) {z : Nat} (b o b' o' : Nat), RepEs w B β n z b o es → RepEs w' B' β' n' z b' o' es → RepEs w' B' β' n z b' o' es
  | [], _, _, _, _, _, _, _ => by simp only [RepEs]
  | e :: es, z, b, o, b', o', h1, h2 => by
    simp only [RepEs] at h1 h2 ⊢
    obtain ⟨_, g1, g2⟩ := h1
    obtain ⟨el, k1, k2⟩ := h2
    exact ⟨el, RepF.bound e b o b' o' g1 k1, RepEs.bound es b (o + z) b' (o' + z) g2 k2⟩
end
theorem RepM.bound : ∀ (es : List (Value × AV)) (l l' : List MapEntry), RepM w B β n es l → RepM w' B' β' n' es l' → RepM w' B' β' n es l'
  | [], _, _, _, h => by simpa only [RepM] using h
  | (k, a) :: r, l, l', h1, h2 => by
    simp only [RepM] at h1 h2 ⊢
    obtain ⟨e, es, _, _, g1, g2⟩ := h1
    obtain ⟨e', es', k0, k1, k2, k3⟩ := h2
    exact ⟨e', es', k0, k1, RepV.bound a e.val e'.val g1 k2, RepM.bound r es es' g2 k3⟩
end
section
variable {w w' : World} {B0 : Nat → Nat → Prop} {base n n' : Nat} {β β' : Nat → Nat} {H H' : AH}
theorem HRep.forget (h : HRep w B0 base β n H) (h' : HRep w' B0 base β' n' H') (k : Keeps H n H' n') (e : Ext w B0 β n H w' β' n' H') :
    HRep w' B0 base β' n H ∧ Ext w B0 β n H w' β' n H ∧ Pres w' (Bad B0 β' H') w' (Bad B0 β' H) := by
  have up : ∀ id o, H id = some o → H' id = some o := fun id o ho => (k.2 id (h.dom id o ho)).trans ho
  have hbad : ∀ b o, Bad B0 β' H b o → Bad B0 β' H' b o := by
    rintro b o (h1 | ⟨i, t, z, es, s, h1, h2, h3⟩)
    · exact .inl h1
    · exact .inr ⟨i, t, z, es, s, up _ _ h1, h2, h3⟩
  have hp : Pres w' (Bad B0 β' H') w' (Bad B0 β' H) := ⟨fun b o u hu hnb => ⟨hu, fun hb => hnb (hbad b o hb)⟩, fun _ _ h => h⟩
  refine ⟨⟨h.dom, fun id o ho => h'.own id o (up id o ho), fun i j o o' hi hj he => h'.inj i j o o' (up _ _ hi) (up _ _ hj) he, ?_, ?_⟩,
    ⟨Nat.le_refl _, e.agree, e.pres.trans hp, e.size, e.os, e.tape, e.output, e.block, fun id o ho => .inl ⟨id, o, ho, (e.agree id (h.dom id o ho)).symm⟩⟩, hp⟩
  · intro id t z es s ho
    obtain ⟨cur, cap, h1, h2, h3, h4, h5, h6⟩ := h'.obj id t z es s (up _ _ ho)
    obtain ⟨cur0, _, _, _, _, _, g5, _⟩ := h.obj id t z es s ho
    exact ⟨cur, cap, h1, h2, h3, h4, RepC.bound _ _ _ g5 (h5.mono hp (fun _ _ => rfl) (Nat.le_refl _)), h6⟩
  · intro id es ho
    obtain ⟨ents, clock, h1, h2⟩ := h'.map id es (up _ _ ho)
    obtain ⟨ents0, _, _, g2⟩ := h.map id es ho
    exact ⟨ents, clock, h1, RepM.bound _ _ _ g2 (h2.mono hp (fun _ _ => rfl) (Nat.le_refl _))⟩
end
theorem HCalls.forget {P : Program} {f : FuncId} {args : List AV} {H : AH} {n : Nat} {r : AV} (h : HCalls P f args H n fun v H' n' => v = r ∧ Keeps H n H' n') (hr : noIds r = true) : HCalls P f args H n fun v H' n' => v = r ∧ H' = H ∧ n' = n :=
  ⟨h.1, fun w B0 base β cargs h1 h2 h3 h4 => (h.2 w B0 base β cargs h1 h2 h3 h4).mono fun _ w' ⟨β', n', H', r', v, k1, k2, k3, k4, k5, k6⟩ => by
    subst k5
    obtain ⟨g1, g2, g3⟩ := HRep.forget h3 k3 k6 k2
    exact ⟨β', n, H, r', v, k1, g2, g1, RepV.noIds _ _ hr (k4.mono g3 (fun _ _ => rfl) (Nat.le_refl _)), rfl, rfl, rfl⟩⟩
end Go.Al

/- A part of a slice by three bounds; a part at its capacity's end; an append of a part of a row onto a part of one, within its capacity. -/
namespace Go.Al
section
variable {P : Program} {N : Nat} {a : Act} {w : World} {B0 : Nat → Nat → Prop} {base : Nat} {β : Nat → Nat} {st : AS}
/-- A part by three bounds, thrown away. -/
theorem AStepX.cut3 {o : Oper} {x lo hh mx : Operand} {t e id z off m k : Nat} {l q r : Int} {T : Ty} {K : AS → Prop} (ho : o.op = .slice t x (some lo) (some hh) (some mx))
    (hs : slOf P t = some e) (hT : tyOf P e = some T) (hx : st.ev x = .slc id z off m k) (hl : st.bound (some lo) 0 = some l) (hq : st.bound (some hh) m = some q) (hm : st.bound (some mx) m = some r) (h0 : 0 ≤ l) (h1 : l ≤ q) (h2 : q ≤ r) (h3 : r ≤ k)
    (hk : K (st.put o.dst .any)) : AStepX P o st K := by
  intro N a w B0 base β hi
  have hu := slOf_some hs
  have hr := hi.ev x
  rw [hx] at hr
  simp only [RepV] at hr
  obtain ⟨r1, r2, r3, r4, r5⟩ := hr
  have b1 : ∀ code, (Instr.sliceBound (a.eval mx) k code).run P w = .ok r.toNat w := fun code => run_bound hi hm (by omega) (by omega)
  have b2 : ∀ code, (Instr.sliceBound (a.eval hh) r.toNat code).run P w = .ok q.toNat w := fun code => run_bound hi hq (by omega) (by omega)
  have b3 : ∀ code, (Instr.sliceBound (a.eval lo) q.toNat code).run P w = .ok l.toNat w := fun code => run_bound hi hl (by omega) (by omega)
  have hsb : (Instr.sliceBounds true m k (some (a.eval lo)) (some (a.eval hh)) (some (a.eval mx))).run P w = .ok (l.toNat, q.toNat, r.toNat) w := by
    simp [Instr.sliceBounds, b1, b2, b3]
  have hsl : ∃ u, (Instr.slice t (.slice (some ⟨β id, off * z, none⟩) m k) (some (a.eval lo)) (some (a.eval hh)) (some (a.eval mx))).run P w = .ok u w := by
    refine ⟨.slice (if r.toNat = l.toNat then some ⟨β id, off * z, none⟩ else (some ⟨β id, off * z, none⟩ : Option Addr).map (·.add (l.toNat * T.size))) (q.toNat - l.toNat) (r.toNat - l.toNat), ?_⟩
    simp only [Instr.slice, Sem.run_bind, run_underlying hu, Result.andThen_ok, hsb, run_sizeOf_ hT, Sem.run_pure]
  obtain ⟨u, hsl⟩ := hsl
  refine ⟨_, _, _, Done.quiet hi (u := u) ?_ (by simp only [RepV]), hk⟩
  simp only [execOp, ho, Instr.sliceAt, Option.map_some, Sem.run_bind, run_underlying hu, Result.andThen_ok, r2, hsl, Sem.run_pure]
theorem AStepX.slice_end {o : Oper} {x : Operand} {lo hh : Option Operand} {t e id z off m k : Nat} {l q : Int} {T : Ty} {K : AS → Prop} (ho : o.op = .slice t x lo hh none)
    (hs : slOf P t = some e) (hT : tyOf P e = some T) (hx : st.ev x = .slc id z off m k) (hl : st.bound lo 0 = some l) (hq : st.bound hh m = some q) (h1 : l = k) (h2 : q = k)
    (hk : K (st.put o.dst (.slc id z off 0 0))) : AStepX P o st K := by
  intro N a w B0 base β hi
  have hu := slOf_some hs
  have hr := hi.ev x
  rw [hx] at hr
  simp only [RepV] at hr
  obtain ⟨r1, r2, r3, r4, r5⟩ := hr
  have hsb := run_bounds_cap (P := P) (len := m) (c := k) hi hl hq (by omega) (by omega) (by omega)
  have e1 : l.toNat = k := by omega
  have e2 : q.toNat = k := by omega
  rw [e1, e2] at hsb
  have hsl : (Instr.slice t (.slice (some ⟨β id, off * z, none⟩) m k) (lo.map a.eval) (hh.map a.eval) none).run P w = .ok (.slice (some ⟨β id, off * z, none⟩) 0 0) w := by
    simp only [Instr.slice, Sem.run_bind, run_underlying hu, Result.andThen_ok, hsb, run_sizeOf_ hT, Sem.run_pure]
    simp
  refine ⟨_, _, _, Done.quiet hi (u := .slice (some ⟨β id, off * z, none⟩) 0 0) ?_ ?_, hk⟩
  · simp only [execOp, ho, Instr.sliceAt, Option.map_none, Sem.run_bind, run_underlying hu, Result.andThen_ok, r2, hsl, Sem.run_pure]
  · simp only [RepV]
    exact ⟨r1, trivial, by omega, by omega, fun j hj => by omega⟩
/-- A part of a row appended onto a part of a row, where there is room. -/
theorem AStepX.append_in {o : Oper} {c : Call} {x y : Operand} {t e id z i k idy te2 off2 L c2 : Nat} {s2 : Bool} {T : Ty} {es es2 : List (List AV)} {K : AS → Prop} (ho : o.op = .call c) (hc : c.callee = .builtin .append) (ha : c.args = #[x, y]) (ht : c.argTypes = #[t, t])
    (hs : slOf P t = some e) (hT : tyOf P e = some T) (hz : T.size = z) (hz0 : 0 < z) (hx : st.ev x = .slc id z 0 i k) (hy : st.ev y = .slc idy z off2 L c2)
    (hH : st.H id = some (.obj e z es false)) (hH2 : st.H idy = some (.obj te2 z es2 s2)) (hi0 : i ≤ es.length) (hL : off2 + L ≤ es2.length) (hroom : i + L ≤ k)
    (hk : K ((AS.mk st.t (upd st.H id (some (.obj e z (Al.over es i ((es2.drop off2).take L)) false))) st.n).put o.dst (.slc id z 0 (i + L) k))) : AStepX P o st K := by
  intro N a w B0 base β hi
  have hu := slOf_some hs
  obtain ⟨ti, d, g1, g2, g3, g4, g5, g6⟩ := tyOf_some hT
  have hxr := hi.ev x
  rw [hx] at hxr
  simp only [RepV, Nat.zero_mul] at hxr
  obtain ⟨hid, k1, k2, k3, k4⟩ := hxr
  have hyr := hi.ev y
  rw [hy] at hyr
  simp only [RepV] at hyr
  obtain ⟨hidy, y1, y2, y3, y4⟩ := hyr
  obtain ⟨cur, cap, f1, f2, f3, f4, f5, f6⟩ := hi.heap.obj id _ _ _ _ hH
  obtain ⟨cy, capy, p1, p2, p3, p4, p5, p6⟩ := hi.heap.obj idy _ _ _ _ hH2
  have hyl : ((es2.drop off2).take L).length = L := by simp; omega
  have hys : ∀ x ∈ (es2.drop off2).take L, x.length = z := fun x hx => p6 x (List.mem_of_mem_drop (List.mem_of_mem_take hx))
  have hfl : ((es2.drop off2).take L).flatten = (es2.flatten.drop (off2 * z)).take (L * z) := by
    rw [flatten_take _ _ (fun x hx => p6 x (List.mem_of_mem_drop hx)), flatten_drop _ _ p6]
  have hrep := (p5.drop (off2 * z)).take (L * z)
  rw [← hfl] at hrep
  generalize hvs : ((cy.toList.take (es2.length * z)).drop (off2 * z)).take (L * z) = vs at hrep
  have hvl : vs.length = L * z := by
    have := hrep.len
    rw [flat_len hys, hyl] at this
    exact this
  have hcell : ∀ j v, vs[j]? = some v → w.cell? ((⟨β idy, off2 * z, none⟩ : Addr).add j) = some v := by
    intro j v hv
    have hlv := (List.getElem?_eq_some_iff.1 hv).1
    have hjm : j < L * z := by omega
    have hle : off2 * z + j < es2.length * z := by
      have : (off2 + L) * z ≤ es2.length * z := Nat.mul_le_mul_right _ hL
      rw [Nat.add_mul] at this
      omega
    rw [← hvs, List.getElem?_take, if_pos hjm, List.getElem?_drop, List.getElem?_take, if_pos hle] at hv
    rw [Addr.add_lit]
    simp only [World.cell?, p1]
    simpa using hv
  have hfit : (i + L) * z ≤ cur.size := by
    rcases Nat.eq_zero_or_pos ((i + L) * z) with h0 | h0
    · omega
    · have h1 : (i + L) * z ≤ k * z := Nat.mul_le_mul_right _ hroom
      have := k4 ((i + L) * z - 1) (by omega)
      simp only [World.cell?, f1] at this
      simp at this
      omega
  have hrun := run_append_room (P := P) w t o.type e ti hu g1 (β id) i k cur f1 ⟨β idy, off2 * z, none⟩ L c2 vs (by rw [g3, hz]; exact hvl) hcell hrep.one hroom (by rw [g3, hz, hvl, ← Nat.add_mul]; exact hfit)
  rw [g3, hz] at hrun
  obtain ⟨m1, m2⟩ := hi.heap.over (vs := vs) hi.b0 hH hz0 hi0 f1 hys (by rw [hyl]; exact hfit) hrep
  have hsz : (cur.toList.take (i * z) ++ vs ++ cur.toList.drop (i * z + vs.length)).toArray.size = cur.size := by
    rw [Nat.add_mul] at hfit
    simp; omega
  refine ⟨_, _, _, ⟨_, _, .slice (some ⟨β id, 0, none⟩) (i + L) k, .inl ?_, m1, m2, ?_⟩, hk⟩
  · simp only [execOp, ho, resolve, hc, invoke, builtin, ha, ht, Sem.run_bind, Sem.run_pure, Result.andThen_ok, List.map_toArray, List.map_cons, List.map_nil, k1, y1, hrun]
  · simp only [RepV, Nat.zero_mul]
    refine ⟨by omega, trivial, hroom, k3, fun j hj => ?_⟩
    have h4 := k4 j hj
    have := setRow_heap w (β id) cur (cur.toList.take (i * z) ++ vs ++ cur.toList.drop (i * z + vs.length)).toArray e (0, 0) f1
    simp only [World.cell?, f1] at h4
    simp only [World.cell?, this]
    simp only [Option.isSome_none, Bool.false_eq_true, if_false, Nat.zero_add] at h4 ⊢
    have hj2 : j < cur.size := by
      rcases Nat.lt_or_ge j cur.size with h | h
      · exact h
      · rw [Array.getElem?_eq_none h] at h4; cases h4
    rw [Array.getElem?_eq_getElem (by rw [hsz]; exact hj2)]
    rfl
end
end Go.Al

/- A call whose answer reads as frozen, its row sealed, may be told as one that tells frozen data and changes nothing. -/
namespace Go.Al
theorem HCalls.freeze {P : Program} {f : FuncId} {args : List AV} {H : AH} {n : Nat} {r : AV}
    (h : HCalls P f args H n fun v H' n' => (∃ id t z es, H' id = some (.obj t z es false) ∧ n ≤ id ∧ Sees (upd H' id (some (.obj t z es true))) false v r ∧ Keeps H n H' n') ∨ (Sees H' false v r ∧ Keeps H n H' n')) :
    HCalls P f args H n fun v H' n' => v = r ∧ H' = H ∧ n' = n :=
  ⟨h.1, fun w B0 base β cargs h1 h2 h3 h4 => (h.2 w B0 base β cargs h1 h2 h3 h4).mono fun e w' ⟨β', n', H', r', v, k1, k2, k3, k4, k5⟩ => by
    have main : ∀ (H2 : AH), HRep w' B0 base β' n' H2 → Ext w B0 β n H w' β' n' H2 → RepV w' (Bad B0 β' H2) β' n' r' v → Sees H2 false r' r → Keeps H n H2 n' →
        ∃ β'' n'' H'' r'' v', e = .returned v' ∧ Ext w B0 β n H w' β'' n'' H'' ∧ HRep w' B0 base β'' n'' H'' ∧ RepV w' (Bad B0 β'' H'') β'' n'' r'' v' ∧ r'' = r ∧ H'' = H ∧ n'' = n := by
      intro H2 s1 s2 s3 s4 s5
      obtain ⟨g1, g2, g3⟩ := HRep.forget h3 s1 s5 s2
      have hx := s4.rep w' B0 base β' n' (Bad B0 β' H) v s1 g3 (fun id t z es s hid hs o ho => by
        have hs : s = true := by simpa using hs
        subst hs
        rintro (hb | ⟨i, t', z', es', s', e1, e2, e3⟩)
        · have := (s1.own id _ hid).1
          have := h1 _ _ hb
          omega
        · have e4 : H2 i = some (.obj t' z' es' s') := (s5.2 i (h3.dom i _ e1)).trans e1
          have e5 := s1.inj i id _ _ e4 hid e2
          subst e5
          rw [hid] at e4
          cases e4
          rcases e3 with e3 | e3
          · cases e3
          · omega) s3
      exact ⟨β', n, H, r, v, k1, g2, g1, RepV.noIds _ _ s4.no hx, rfl, rfl, rfl⟩
    rcases k5 with ⟨id, t, z, es, hid, hn, hs, hk⟩ | ⟨hs, hk⟩
    · obtain ⟨s1, s2⟩ := k3.shutO hid
      exact main _ s1 (k2.trans s2) (k4.mono s2.pres s2.agree s2.le) hs ⟨hk.1, fun j hj => by rw [upd_ne _ _ (by omega)]; exact hk.2 j hj⟩
    · exact main _ k3 k2 k4 hs hk⟩
end Go.Al

/- The walk's rewritings, as one. -/
namespace Go.Al
theorem axs : (type_of% @ax_skip) ∧
    (type_of% @ax_label) ∧
    (type_of% @ax_ret) ∧
    (type_of% @ax_exit) ∧
    (type_of% @ax_seq) ∧
    (type_of% @ax_cond) ∧
    (type_of% @ax_block) ∧
    (type_of% @ax_region) ∧
    (type_of% @ax_draw) ∧
    (type_of% @ax_loop) ∧
    (type_of% @ACond_true) ∧
    (type_of% @ACond_false) ∧
    (type_of% @List.all_cons.{0}) ∧
    (type_of% @List.all_nil.{0}) ∧
    (type_of% @AOps_nil) ∧
    (type_of% @AOps_cons) ∧
    (type_of% @AOpsD_nil) ∧
    (type_of% @AOpsD_cons) ∧
    (type_of% @decide_true) ∧
    (type_of% @decide_false) ∧
    (type_of% @Bool.and_self) ∧
    (type_of% @Bool.and_true) ∧
    (type_of% @Bool.true_and) ∧
    (type_of% @true_and) ∧
    (type_of% @and_true) ∧
    (type_of% @if_true.{1}) ∧
    (type_of% @if_false.{1}) ∧
    (type_of% @ite_true.{1}) ∧
    (type_of% @ite_false.{1}) ∧
    (type_of% @Bool.false_eq_true) ∧
    (type_of% @Option.bind_some.{0, 0}) ∧
    (type_of% @Option.bind_none.{0, 0}) ∧
    (type_of% @Option.map_some.{0, 0}) ∧
    (type_of% @Option.some.injEq.{0}) ∧
    (type_of% @List.getD_cons_zero.{0}) ∧
    (type_of% @List.getD_cons_succ.{0}) ∧
    (type_of% @List.getD_nil.{0}) ∧
    (type_of% @List.map_cons.{0, 0}) ∧
    (type_of% @List.map_nil.{0, 0}) ∧
    (type_of% @List.length_cons.{0}) ∧
    (type_of% @List.length_nil.{0}) ∧
    (type_of% @List.getElem?_cons_zero.{0}) ∧
    (type_of% @List.getElem?_cons_succ.{0}) ∧
    (type_of% @List.getElem?_nil.{0}) ∧
    (type_of% @List.drop_zero.{0}) ∧
    (type_of% @List.drop_succ_cons.{0}) ∧
    (type_of% @List.drop_nil.{0}) ∧
    (type_of% @List.take_zero.{0}) ∧
    (type_of% @List.take_succ_cons.{0}) ∧
    (type_of% @List.take_nil.{0}) ∧
    (type_of% @List.cons_append.{0}) ∧
    (type_of% @List.nil_append.{0}) ∧
    (type_of% @List.append_nil.{0}) ∧
    (type_of% @List.set_cons_zero.{0}) ∧
    (type_of% @List.set_cons_succ.{0}) ∧
    (type_of% @List.mapM_cons.{0, 0, 0}) ∧
    (type_of% @List.mapM_nil.{0, 0, 0}) ∧
    (type_of% @Option.pure_def.{0}) ∧
    (type_of% @Option.bind_eq_bind.{0}) ∧
    (type_of% @List.flatten_cons.{0}) ∧
    (type_of% @List.flatten_nil.{0}) ∧
    (type_of% @List.replicate_succ.{0}) ∧
    (type_of% @List.replicate_zero.{0}) ∧
    (type_of% @List.range_succ) ∧
    (type_of% @List.range_zero) ∧
    (type_of% @List.foldl_cons.{0, 0}) ∧
    (type_of% @List.foldl_nil.{0, 0}) ∧
    (type_of% @BEq.rfl.{0}) ∧
    (type_of% @beq_self_eq_true.{0}) ∧
    (type_of% @Nat.zero_add) ∧
    (type_of% @Nat.add_zero) ∧
    (type_of% @Nat.zero_mul) ∧
    (type_of% @Nat.mul_zero) ∧
    (type_of% @Nat.one_mul) ∧
    (type_of% @Nat.mul_one) ∧
    (type_of% @Bool.not_true) ∧
    (type_of% @Bool.not_false) ∧
    (type_of% @ne_eq.{1}) ∧
    (type_of% @not_true_eq_false) ∧
    (type_of% @not_false_eq_true) ∧
    (type_of% @Array.getD_eq_getD_getElem?.{0}) ∧
    (type_of% @List.getElem?_toArray.{0}) ∧
    (type_of% @Option.getD_some.{0}) ∧
    (type_of% @Int.toNat_zero) ∧
    (type_of% @Int.toNat_one) ∧
    (type_of% @Nat.le_refl) ∧
    (type_of% @Int.le_refl) ∧
    (type_of% @unary_not) ∧
    (type_of% @unary_neg) ∧
    (type_of% @Option.isSome_none.{0}) ∧
    (type_of% @Option.isSome_some.{0}) ∧
    (type_of% @Int.toNat_natCast) ∧
    (type_of% @Int.cast_ofNat_Int) ∧
    (type_of% @Nat.sub_zero) ∧
    (type_of% @beqT) ∧
    (type_of% @beqF) ∧
    (type_of% @eq_self.{1}) :=
  ⟨@ax_skip, @ax_label, @ax_ret, @ax_exit, @ax_seq, @ax_cond, @ax_block, @ax_region, @ax_draw, @ax_loop, @ACond_true, @ACond_false, @List.all_cons.{0}, @List.all_nil.{0}, @AOps_nil, @AOps_cons, @AOpsD_nil, @AOpsD_cons, @decide_true, @decide_false, @Bool.and_self, @Bool.and_true, @Bool.true_and, @true_and, @and_true, @if_true.{1}, @if_false.{1}, @ite_true.{1}, @ite_false.{1}, @Bool.false_eq_true, @Option.bind_some.{0, 0}, @Option.bind_none.{0, 0}, @Option.map_some.{0, 0}, @Option.some.injEq.{0}, @List.getD_cons_zero.{0}, @List.getD_cons_succ.{0}, @List.getD_nil.{0}, @List.map_cons.{0, 0}, @List.map_nil.{0, 0}, @List.length_cons.{0}, @List.length_nil.{0}, @List.getElem?_cons_zero.{0}, @List.getElem?_cons_succ.{0}, @List.getElem?_nil.{0}, @List.drop_zero.{0}, @List.drop_succ_cons.{0}, @List.drop_nil.{0}, @List.take_zero.{0}, @List.take_succ_cons.{0}, @List.take_nil.{0}, @List.cons_append.{0}, @List.nil_append.{0}, @List.append_nil.{0}, @List.set_cons_zero.{0}, @List.set_cons_succ.{0}, @List.mapM_cons.{0, 0, 0}, @List.mapM_nil.{0, 0, 0}, @Option.pure_def.{0}, @Option.bind_eq_bind.{0}, @List.flatten_cons.{0}, @List.flatten_nil.{0}, @List.replicate_succ.{0}, @List.replicate_zero.{0}, @List.range_succ, @List.range_zero, @List.foldl_cons.{0, 0}, @List.foldl_nil.{0, 0}, @BEq.rfl.{0}, @beq_self_eq_true.{0}, @Nat.zero_add, @Nat.add_zero, @Nat.zero_mul, @Nat.mul_zero, @Nat.one_mul, @Nat.mul_one, @Bool.not_true, @Bool.not_false, @ne_eq.{1}, @not_true_eq_false, @not_false_eq_true, @Array.getD_eq_getD_getElem?.{0}, @List.getElem?_toArray.{0}, @Option.getD_some.{0}, @Int.toNat_zero, @Int.toNat_one, @Nat.le_refl, @Int.le_refl, @unary_not, @unary_neg, @Option.isSome_none.{0}, @Option.isSome_some.{0}, @Int.toNat_natCast, @Int.cast_ofNat_Int, @Nat.sub_zero, @beqT, @beqF, @eq_self.{1}⟩
/-- The words of the walk, unfolded, as one. -/
theorem axw : (type_of% @AThen.eq_def) ∧
    (type_of% @ABlock.eq_def) ∧
    (type_of% @dstsOk.eq_def) ∧
    (type_of% @AStep.eq_def) ∧
    (type_of% @callsF.eq_def) ∧
    (type_of% @AWant.eq_def) ∧
    (type_of% @aop.eq_def) ∧
    (type_of% @AS.ev.eq_def) ∧
    (type_of% @AS.put.eq_def) ∧
    (type_of% @upd.eq_def) ∧
    (type_of% @AS.bound.eq_def) ∧
    (type_of% @abin.eq_def) ∧
    (type_of% @aint.eq_def) ∧
    (type_of% @aload.eq_def) ∧
    (type_of% @astore.eq_def) ∧
    (type_of% @cellsAt.eq_def) ∧
    (type_of% @AV.cells.eq_def) ∧
    (type_of% @alen.eq_def) ∧
    (type_of% @elems.eq_def) ∧
    (type_of% @AV.int?.eq_def) ∧
    (type_of% @FPost.eq_def) ∧
    (type_of% @ares1.eq_def) ∧
    (type_of% @pack.eq_def) ∧
    (type_of% @splice.eq_def) ∧
    (type_of% @pickP.eq_def) ∧
    (type_of% @AScope.eq_def) ∧
    (type_of% @pickQ.eq_def) ∧
    (type_of% @inHeap.eq_def) :=
  ⟨@AThen.eq_def, @ABlock.eq_def, @dstsOk.eq_def, @AStep.eq_def, @callsF.eq_def, @AWant.eq_def, @aop.eq_def, @AS.ev.eq_def, @AS.put.eq_def, @upd.eq_def, @AS.bound.eq_def, @abin.eq_def, @aint.eq_def, @aload.eq_def, @astore.eq_def, @cellsAt.eq_def, @AV.cells.eq_def, @alen.eq_def, @elems.eq_def, @AV.int?.eq_def, @FPost.eq_def, @ares1.eq_def, @pack.eq_def, @splice.eq_def, @pickP.eq_def, @AScope.eq_def, @pickQ.eq_def, @inHeap.eq_def⟩
end Go.Al
