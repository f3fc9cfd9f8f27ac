/- A list's places, gathered, as live lists have them. Conditions: few places. -/
import Derived.Test.YtdebjhjnpomlmaaIz1
import Derived.Test.YtdebjhjnpomlmaaIz3
set_option linter.unusedVariables false
set_option linter.unusedSimpArgs false
set_option maxRecDepth 20000
set_option maxHeartbeats 1600000
namespace Go.Al
open Go.Proofs
theorem Sees.any {H : AH} {loose : Bool} {a : AV} : Sees H loose a .any := ⟨by simp [noIds], fun _ _ _ _ _ _ _ _ _ _ _ => by simp only [RepV]⟩
/-- A live place, seen as one that nobody writes. -/
theorem Sees.fp {H : AH} {loose : Bool} {id t z : Nat} {row row' : List AV} {s : Bool} (h : H id = some (.obj t z [row] s)) (hb : (s || loose) = true) (hs : SeesL H loose row row') : Sees H loose (.ptr id z 0 0) (.fp row') :=
  ⟨by simp [Al.noIds, hs.noIds], fun w B0 base β n Bx v hh hp hx hr => by
    simp only [RepV] at hr ⊢
    obtain ⟨hid, rfl⟩ := hr
    obtain ⟨cur, cap, h1, h2, h3, h4, h5, h6⟩ := hh.obj id t z [row] s h
    have hz : row.length = z := h6 row (by simp)
    have h5' := SeesL.repC hh hp hx hs (by simpa using h5)
    have hl := RepC.len h5'
    have hl2 := RepC.len (by simpa using h5 : RepC w (Bad B0 β H) β n row (cur.toList.take z))
    refine ⟨β id, 0 * z + 0, rfl, RepF.of_cells h5' ?_ ?_ (Pres.refl w Bx)⟩
    · intro j u hj
      rw [List.getElem?_take] at hj
      split at hj
      · simp [World.cell?, h1]
        simpa using hj
      · cases hj
    · intro j hj
      exact hx id t z [row] s h hb _ (by simp; omega)⟩
theorem LsH.sees {H : AH} {n L r a s : Nat} {fv : AV} {R : RA} {rows : List Rw} (h : LsH H n L r a s fv R rows) : Sees H true (.ptr L 2 0 0) (FL R rows) := by
  refine Sees.fp h.hL rfl ⟨Sees.fp h.ar.ha rfl ⟨?_, Sees.any, Sees.sc, Sees.sc, trivial⟩, ?_, trivial⟩
  · exact Sees.obj ⟨_, _, h.ar.hs, rfl⟩ (by simp [SL_len]) (noIdsE_SL _)
  · exact Sees.obj ⟨_, _, h.hr, rfl⟩ (by simp [RW_len]) (noIdsE_RW _)
theorem pz {f : Nat} {u r : Value} {R : RA} {rows : List Rw} {W₀ W : World} {v : Value} (h : PCalls Try.prog f [FL R rows, .sc u] (.sc r)) (hz : RepV W₀ (fun b _ => W₀.heap.size ≤ b) (fun _ => 0) 0 (FL R rows) v) (hb : RowKit.Below W₀.heap.size W₀ W) :
    Calls Try.prog f #[v, u] W fun e W' => e = .returned r ∧ RowKit.Below W.heap.size W W' := by
  have hn : noIds (FL R rows) = true := by unfold FL FA; simp [noIds, noIdsL, noIdsE_SL, noIdsE_RW]
  have hv : RepV W (fun _ _ => False) (fun _ => 0) 0 (FL R rows) v := RepV.calm (fun b o u hu hB => ⟨by rw [hb.cell (p := ⟨b, o, none⟩) (Nat.lt_of_not_le hB)]; exact hu, fun h => h⟩) _ _ hn hz
  refine (h.2 W (fun _ _ => False) (fun _ => 0) 0 [v, u] (fun _ _ h => h.elim) ?_).mono ?_
  · simp only [RepL]
    exact ⟨v, [u], rfl, hv, u, [], rfl, by simp only [RepV], rfl⟩
  · rintro e W' ⟨x, rfl, hb, hx⟩
    simp only [RepV] at hx
    rw [hx]
    exact ⟨rfl, hb⟩
def allL (ls : List (List Int)) (t : Int) : List Int := if 0 ≤ t then ls.getD t.toNat [] else []
theorem allL_get {ls : List (List Int)} {t : Int} : allL ls t = [] ∨ (0 ≤ t ∧ ls[t.toNat]? = some (allL ls t)) := by
  unfold allL
  split
  · rename_i h
    rw [List.getD_eq_getElem?_getD]
    cases e : ls[t.toNat]? with
    | none => exact .inl rfl
    | some l => exact .inr ⟨h, rfl⟩
  · exact .inl rfl
theorem LInv.front_eq {R : RA} {rows : List Rw} {ls : List (List Int)} (inv : LInv R rows ls) (t : Int) : frontR rows t = hd0 (allL ls t) := by
  unfold frontR allL
  by_cases h0 : 0 ≤ t
  · rw [if_pos h0]
    by_cases h1 : t < rows.length
    · obtain ⟨l, hl, hr⟩ := inv.at (t := t.toNat) (by omega)
      rw [if_pos ⟨h0, h1⟩, hr, List.getD_eq_getElem?_getD, hl]
      cases l <;> rfl
    · rw [if_neg (by omega), List.getD_eq_getElem?_getD, List.getElem?_eq_none (by rw [← inv.len]; omega)]
      rfl
  · rw [if_neg (by omega), if_neg h0]; rfl
theorem iter_of {w : World} {R : RA} {rows : List Rw} {ls : List (List Int)} (inv : LInv R rows ls) (fine : ∀ i, I32ok i → Fine R rows i) (he : R.ever ≤ 1000) {pv : Value} (t : Int) (hz : RepV w (fun b _ => w.heap.size ≤ b) (fun _ => 0) 0 (FL R rows) pv) : Iter w w.heap.size pv t (allL ls t) := by
  refine ⟨?_, ?_, fun W hW => ?_, fun pre x rest hx W hW => ?_⟩
  · rcases allL_get (ls := ls) (t := t) with h | ⟨_, h⟩
    · rw [h]; exact List.nodup_nil
    · exact inv.one _ _ h
  · intro x hx
    rcases allL_get (ls := ls) (t := t) with h | ⟨_, h⟩
    · rw [h] at hx; cases hx
    · exact live_ne inv.ok (inv.live _ _ h x hx)
  · have := pz (fLsFront R rows t) hz hW
    rwa [inv.front_eq t] at this
  · rcases allL_get (ls := ls) (t := t) with h | ⟨_, h⟩
    · rw [h] at hx; simp at hx
    · have hm : x ∈ allL ls t := by rw [hx]; simp
      have hlive := ra_rng inv.ok (inv.live _ _ h x hm)
      have hi : I32ok x := ⟨by omega, by omega⟩
      have f := fine x hi
      have hp : (allL ls t)[pre.length]? = some x := by rw [hx, List.getElem?_append_right (Nat.le_refl _)]; simp
      obtain ⟨n1, n2, n3⟩ := inv.node _ _ h pre.length x hp
      have hnx : (raAt R x).next = hd0 rest := by
        rw [n3]
        unfold nxt
        rw [List.getD_eq_getElem?_getD, hx, List.getElem?_append_right (by omega), show pre.length + 1 - pre.length = 1 by omega]
        cases rest <;> rfl
      have := pz (fLsAfter R rows inv.ok x hi f.t0 f.t1 (by omega)) hz hW
      rwa [hnx] at this
theorem RepEs.ints {w : World} {B : Nat → Nat → Prop} {β : Nat → Nat} {n g : Nat} (hB : ∀ o, ¬ B g o) : ∀ (xs : List Int) (o : Nat), (∀ j x, xs[j]? = some x → w.cell? ⟨g, o + j, none⟩ = some (.int .i32 x)) → RepEs w B β n 1 g o (I32 xs)
  | [], _, _ => by simp only [I32, List.map_nil, RepEs]
  | x :: xs, o, h => by
    simp only [I32, List.map_cons, RepEs, RepF, RepV]
    refine ⟨rfl, ⟨⟨.int .i32 x, h 0 x rfl, rfl, rfl⟩, hB _, trivial⟩, RepEs.ints hB xs (o + 1) fun j y hj => ?_⟩
    have := h (j + 1) y (by simpa using hj)
    rwa [show o + (j + 1) = o + 1 + j by omega] at this
/-- What has been gathered, as a frozen row. -/
theorem gathered {w w' : World} {B0 : Nat → Nat → Prop} {base : Nat} {β : Nat → Nat} {n : Nat} {H : AH} (hh : HRep w B0 base β n H) (h0 : ∀ b o, B0 b o → b < base) (hb : base ≤ w.heap.size) {xs : List Int} {v : Value}
    (hrow : w'.ownsRow w.heap.size 21 1 v xs.length (xs.map (Value.int .i32))) (hnil : v = .slice none 0 0 ↔ xs = []) : RepV w' (Bad B0 β H) β n (.lst 1 (I32 xs)) v := by
  simp only [RepV]
  rcases hrow.2 with ⟨h1, h2⟩ | ⟨g, cap, cur, rfl, hg, hc, h3, h4, h5, h6⟩
  · exact .inl ⟨h1, by rw [hnil.1 h1]; rfl⟩
  · refine .inr ⟨g, 0, cap, by rw [I32_len], by rw [I32_len]; exact h3, RepEs.ints (fun o ho => ?_) xs 0 fun j x hj => ?_⟩
    · have := Bad_lt hh h0 hb g o ho
      omega
    · have hj2 : (xs.map (Value.int .i32))[j]? = some (.int .i32 x) := by simp [hj]
      have hlt : j < xs.length := (List.getElem?_eq_some_iff.1 hj).1
      rw [← h6, List.getElem?_take_of_lt (by omega)] at hj2
      simp [World.cell?, hc]
      simpa using hj2
theorem cLsAll {H : AH} {n L r a s : Nat} {fv : AV} {R : RA} {rows : List Rw} {ls : List (List Int)} (h : LsH H n L r a s fv R rows) (inv : LInv R rows ls) (h8 : ls.length ≤ 100) (he : R.ever ≤ 1000) (t : Int) :
    HCalls Try.prog 47 [.ptr L 2 0 0, .sc (.int .i64 t)] H n fun v H' n' => v = .lst 1 (I32 (allL ls t)) ∧ H' = H ∧ n' = n := by
  refine ⟨rfl, fun w B0 base β cargs h0 hb hh hr => ?_⟩
  simp only [RepL] at hr
  obtain ⟨pv, us, rfl, hv, u, us', rfl, hu, rfl⟩ := hr
  simp only [RepV] at hu
  subst hu
  have hz0 : RepV w (fun b _ => w.heap.size ≤ b) β n (FL R rows) pv := h.sees.rep w B0 base β n _ pv hh ⟨fun b o u hu _ => ⟨hu, fun hle => by have := cell_lt (w := w) (b := b) (o := o) (by rw [hu]; rfl); omega⟩, fun _ _ h => h⟩
    (fun id t z es s ho _ o _ hle => by have := (hh.own id _ ho).2; omega) hv
  have hz := RepV.noIds (β' := fun _ => 0) (n' := 0) _ _ h.sees.no hz0
  simp only [RepV] at hv
  have hlen : (allL ls t).length ≤ 1000 := by
    rcases allL_get (ls := ls) (t := t) with h | ⟨_, h⟩
    · rw [h]; simp
    · have := pigeon R.ever.toNat (allL ls t) (inv.one _ _ h) (fun k hk => by have := ra_rng inv.ok (inv.live _ _ h k hk); omega)
      omega
  refine (callsIn_wide.1 (all_in 4 (Nat.le_refl _) pv (.inr ⟨_, hv.2⟩) t (allL ls t) hlen w (iter_of inv (fun i hi => inv.fine h8 he i hi) he t hz))).mono ?_
  rintro e w' ⟨v, rfl, hrow, hnil, hbel⟩
  exact ⟨β, n, H, .lst 1 (I32 (allL ls t)), v, rfl, Ext.of_below hbel, hh.below hbel, gathered hh h0 hb hrow hnil, rfl, rfl, rfl⟩
end Go.Al
