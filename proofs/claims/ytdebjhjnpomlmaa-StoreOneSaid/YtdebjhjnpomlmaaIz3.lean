/- A list's places, gathered in a loop. Conditions: the list is short. -/
import Derived.RangeFuncNested
import Derived.Test.YtdebjhjnpomlmaaIz2
set_option linter.unusedVariables false
set_option linter.unusedSimpArgs false
namespace Go.Al
open Go.Proofs Go.RowKit Go.Shelf
set_option maxHeartbeats 1000000 in
theorem slots_in (n : Nat) (pv : Value) (hp : pv = .pointer none ∨ ∃ a, pv = .pointer (some a)) (t : Int) (w : World) :
    CallsIn Fence.wide n Try.prog 71 #[pv, .int .i64 t] w fun e w' => e = .returned (.func (.func 89) #[] #[.pointer (some ⟨w.heap.size, 0, none⟩), .pointer (some ⟨w.heap.size + 1, 0, none⟩)]) ∧ w' = (w.alloc (.cells #[pv] 66)).alloc (.cells #[.int .i64 t] 3) := by
  refine callsIn_of_wp Try.func71 rfl trivial ?_ rfl
  simp only [Try.ntmps71, List.size_toArray, List.length_cons, List.length_nil, Nat.reduceAdd, Nat.reduceSub, Array.replicate_succ, Array.replicate_zero, List.push_toArray, List.append_toArray, List.nil_append, List.cons_append]
  rcases hp with rfl | ⟨a, rfl⟩
  · gi_wp2
    go_ret
    exact ⟨rfl, rfl⟩
  · gi_wp2
    go_ret
    exact ⟨rfl, rfl⟩
theorem slots_stops (n : Nat) (hn : 1 ≤ n) (B1 B2 n₀ : Nat) (W₀ : World) (t : Int) (xs : List Int) (pv : Value) (it : Iter W₀ n₀ pv t xs) (w : World) (hw : RowKit.Below n₀ W₀ w) (hnw : n₀ ≤ w.heap.size)
    (h1 : Boxed w B1 66 pv) (h2 : Boxed w B2 3 (.int .i64 t)) :
    SeqStopsK Fence.wide n Try.prog 89 #[.pointer (some ⟨B1, 0, none⟩), .pointer (some ⟨B2, 0, none⟩)] (fun x : Int => #[Value.int .i32 x]) (Kb n₀ B1 B2) (fun ys => ys = xs) (fun pre => pre <+: xs) xs.length w := fun l J Jx W hW hJ _ hY h0 =>
  slots1_in n hn l B1 B2 n₀ W₀ t xs pv it J Jx hY W hJ ((hW.block _ h1.lt).trans h1) ((hW.block _ h2.lt).trans h2) (hw.trans (hW.mono hnw)) (Nat.le_trans hnw hW.size) h0
theorem info21 : (Try.prog.info? 21).map (fun i => (i.zero, i.size, i.bytes)) = some (some (.int .i32 0), 1, 4) := by kernel_rfl
set_option maxRecDepth 100000 in
set_option maxHeartbeats 2000000 in
theorem all_in (n : Nat) (hn : 4 ≤ n) (pv : Value) (hp : pv = .pointer none ∨ ∃ a, pv = .pointer (some a)) (t : Int) (xs : List Int) (hlen : xs.length ≤ 1000) (w : World) (it : Iter w w.heap.size pv t xs) :
    CallsIn Fence.wide n Try.prog 47 #[pv, .int .i64 t] w fun e W' => ∃ v, e = .returned v ∧ W'.ownsRow w.heap.size 21 1 v xs.length (xs.map (Value.int .i32)) ∧ (v = .slice none 0 0 ↔ xs = []) ∧ RowKit.Below w.heap.size w W' := by
  have h1 : 1 ≤ n := by omega
  have hf1 : Fence.wide.fn 71 := trivial
  obtain ⟨i0, hi, hz0, hz1, hz2⟩ := info_parts info21
  refine callsIn_of_wp_marks Try.func47 rfl trivial ?_ rfl
  simp only [Try.ntmps47, List.size_toArray, List.length_cons, List.length_nil, Nat.reduceAdd, Nat.reduceSub, Array.replicate_succ, Array.replicate_zero, List.push_toArray, List.append_toArray, List.nil_append, List.cons_append]
  gi_wp2_with (gi_at_call 71; refine (slots_in (n - 1) pv hp t _).mono ?_; rintro e w' ⟨rfl, rfl⟩)
  have bO := Boxed.new w 84 (.slice none 0 0)
  have bL := Boxed.new (w.alloc (.cells #[.slice none 0 0] 84)) 66 pv
  have bT := Boxed.new ((w.alloc (.cells #[.slice none 0 0] 84)).alloc (.cells #[pv] 66)) 3 (.int .i64 t)
  simp only [World.size_alloc] at bL bT
  have bL2 := bL.alloc (.cells #[.int .i64 t] 3)
  have hB0 : RowKit.Below w.heap.size w (((w.alloc (.cells #[.slice none 0 0] 84)).alloc (.cells #[pv] 66)).alloc (.cells #[.int .i64 t] 3)) := (((RowKit.Below.refl _ w).alloc (Nat.le_refl _) _).alloc (by simp) _).alloc (by simp; omega) _
  have hml : xs.length ≤ maxLen := by unfold maxLen; omega
  refine wpIn_rangeFunc_ownG rfl h1 (gf := 89) (lb := #[.pointer (some ⟨w.heap.size + 1, 0, none⟩), .pointer (some ⟨w.heap.size + 1 + 1, 0, none⟩)]) rfl trivial (enters_of Try.func89 (by kernel_rfl) rfl)
    (slots_stops (n - 1) (by omega) (w.heap.size + 1) (w.heap.size + 1 + 1) w.heap.size w t xs pv it _ hB0 (by simp; omega) bL2 bT) Kb.trans
    (fun W l o o' hl ho hc hk => ⟨belowK_b (by simp; omega) W l o o' hl ho hc hk, World.putObj_heap_other (by simp at hl; omega), World.putObj_heap_other (by simp at hl; omega)⟩) (RowKit.Below.refl _ _) (fun _ => rfl)
    (fun pre W => (∃ v, Boxed W w.heap.size 84 v ∧ W.ownsRow w.heap.size 21 1 v pre.length (pre.map (Value.int .i32)) ∧ (v = .slice none 0 0 ↔ pre = [])) ∧ RowKit.Below w.heap.size w W ∧ Boxed W (w.heap.size + 1) 66 pv ∧ Boxed W (w.heap.size + 1 + 1) 3 (.int .i64 t))
    (fun _ _ _ => False)
    (OwnFrom.and (Own.from (holdsRow_own w.heap.size w.heap.size 84 21 1 (fun pre : List Int => pre.length) (fun pre => pre.map (Value.int .i32)) (fun pre v => v = .slice none 0 0 ↔ pre = [])) _) (OwnFrom.and (ownFrom_below (Nat.le_refl _) (by simp; omega)) (OwnFrom.and (Own.from (boxed_own _ _ (fun _ => pv)) _) (Own.from (boxed_own _ _ (fun _ => .int .i64 t)) _))))
    (fun _ _ _ _ _ hs _ _ => hs)
    ⟨⟨_, (bO.alloc _).alloc _, World.ownsRow_nil _ _ _ _, by simp⟩, hB0, bL2, bT⟩
    (fun x => { tmps := #[pv, .int .i64 t, undef, undef, .slice none 0 0, .pointer (some ⟨w.heap.size, 0, none⟩), .int .i32 x, pv, .int .i64 t, .func (.func 89) #[] #[.pointer (some ⟨w.heap.size + 1, 0, none⟩), .pointer (some ⟨w.heap.size + 1 + 1, 0, none⟩)], .int .i32 x, undef, undef, undef, undef, undef], defers := [] }) ?assign ?body ?done ?stop
  case assign =>
    intro l x W K hK
    gi_wp2_with (rw [Oper.semAt_eq _ _ _ (fun c h => by cases h)]; go_simp; try go_bits)
    exact hK
  case body =>
    rintro l pre x W ⟨⟨v, hv, hrow, hnil⟩, hB, hL1, hT1⟩ hlt
    have hc := hv.cell
    gi_wp2_with (first | (gi_at_builtin; refine wpListIn_append_own _ rfl _ _ 84 rfl w.heap.size 21 i0 (.int .i32 0) 1 4 Try.underlying84 hi hz0 hz1 hz2 rfl (by decide) _ _ _ rfl (hrow.alloc _) ⟨W.heap.size, 0, none⟩ 1 1 [.int .i32 x] rfl rfl (cell_one_new _ _ _) (by simp [Value.oneCell']) (by omega) (by omega) (by have := hB.size; simp; omega) ?_; intro v' w1 hown' hgrow _; obtain ⟨g', cap', rfl⟩ := ownsRow_succ hown'; obtain ⟨hv1, hv2, hr2, hk2, hb2⟩ := hv.appended (by decide) hrow hB.size (Nat.le_refl _) hown' hgrow; have hc1 := hv1.cell; have hf1 := hv1.frozen) | (rw [Oper.semAt_eq _ _ _ (fun c h => by cases h)]; go_simp; try go_bits))
    have hL2 := ((hL1.alloc (.cells #[.int .i32 x] 21)).kept hgrow (hL1.not_row (by decide) hrow)).other (B' := w.heap.size) (by omega) (.slice (some ⟨g', 0, none⟩) (pre.length + 1) cap')
    have hT2 := ((hT1.alloc (.cells #[.int .i32 x] 21)).kept hgrow (hT1.not_row (by decide) hrow)).other (B' := w.heap.size) (by omega) (.slice (some ⟨g', 0, none⟩) (pre.length + 1) cap')
    exact ⟨hk2.from _, ⟨hb2, Eq.trans hL2 (Eq.symm hL1), Eq.trans hT2 (Eq.symm hT1)⟩, ⟨_, hv2, by simpa using hr2, by simp⟩, hB.trans hb2, hL2, hT2⟩
  case done =>
    rintro D ys W hD rfl ⟨⟨v, hv, hrow, hnil⟩, hB, _, _⟩ hK
    have hc := hv.cell
    gi_wp2
    refine ⟨by simp, .inl ⟨_, _, rfl, run_takeDeferred hK, ?_⟩⟩
    exact ⟨_, results_tmp rfl _ _ _, v, rfl, ownsRow_putObj hrow _ hK rfl, hnil, hB.trans (belowK_b (w := w) (Nat.le_refl _) W D _ _ (by simp at hD; omega) hK rfl rfl)⟩
  case stop =>
    rintro D c pre W _ _ h _
    exact h.elim
end Go.Al
