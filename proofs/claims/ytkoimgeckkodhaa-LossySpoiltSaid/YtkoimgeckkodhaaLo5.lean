/- A map that forgets: does an answer fit? Conditions: the rows are short. -/
import Derived.Test.YtkoimgeckkodhaaLo4
set_option linter.unusedVariables false
set_option linter.unusedSimpArgs false
set_option maxRecDepth 20000
set_option maxHeartbeats 6400000
-- NOIDS: noIdsE_PR
-- LENS: PR_len
namespace Go.Al
open Go.Proofs
structure LOp where
  kind : Int
  key : Int
  val : Int
  n : Int
structure LAns where
  hit : Bool
  val : Int
  n : Int
  out : List (Int × Int)
  err : Int
def LOp.cells (o : LOp) : List AV := [.sc (.int .i64 o.kind), .sc (.int .u64 o.key), .sc (.int .u64 o.val), .sc (.int .i64 o.n)]
def LAns.cells (a : LAns) : List AV := [.sc (.bool a.hit), .sc (.int .u64 a.val), .sc (.int .i64 a.n), .lst 2 (PR a.out), .sc (.int .i64 a.err)]
/-- A key's value. -/
def valK (m : List (Int × Int)) (k : Int) : Int := match m.find? (fun x => decide (x.1 = k)) with | some x => x.2 | none => 0
/-- What is wanted. -/
structure LWant where
  hit : Bool
  val : Int
  n : Int
  err : Int
def is123 (k : Int) : Bool := decide (k = 1) || (decide (k = 3) || decide (k = 2))
def want (m : List (Int × Int)) (o : LOp) (a : LAns) : LWant :=
  if is123 o.kind then ⟨decide (idxK m o.key ≥ 0), valK m o.key, 0, 0⟩ else if o.kind = 5 then ⟨false, 0, m.length, 0⟩ else if o.kind = 4 then ⟨false, 0, 0, if a.err = 1 ∧ a.out = [] then 1 else 0⟩ else ⟨false, 0, 0, 2⟩
/-- May something be evicted at all? -/
def mayOut (m : List (Int × Int)) (o : LOp) : Bool := decide (o.kind = 4) || (decide (o.kind = 2) && decide (idxK m o.key < 0))
def fitsB (m : List (Int × Int)) (o : LOp) (a : LAns) : Bool :=
  (mayOut m o || decide (a.out = [])) && (decide (a.hit = (want m o a).hit) && (decide (a.val = (want m o a).val) && (decide (a.n = (want m o a).n) && (decide (a.err = (want m o a).err) && outB m a.out))))
/-- The walk's rewritings but the one that opens a block. -/
theorem axn : (type_of% @ax_skip) ∧
    (type_of% @ax_label) ∧
    (type_of% @ax_ret) ∧
    (type_of% @ax_exit) ∧
    (type_of% @ax_seq) ∧
    (type_of% @ax_cond) ∧
    (type_of% @ax_region) ∧
    (type_of% @ax_draw) ∧
    (type_of% @ax_loop) ∧
    (type_of% @ACond_true) ∧
    (type_of% @ACond_false) ∧
    (type_of% @List.all_cons.{0}) ∧
    (type_of% @List.all_nil.{0}) ∧
    (type_of% @AOps_nil) ∧
    (type_of% @AOps_cons) ∧
    (type_of% @AOpsD_nil) ∧
    (type_of% @AOpsD_cons) ∧
    (type_of% @decide_true) ∧
    (type_of% @decide_false) ∧
    (type_of% @Bool.and_self) ∧
    (type_of% @Bool.and_true) ∧
    (type_of% @Bool.true_and) ∧
    (type_of% @true_and) ∧
    (type_of% @and_true) ∧
    (type_of% @if_true.{1}) ∧
    (type_of% @if_false.{1}) ∧
    (type_of% @ite_true.{1}) ∧
    (type_of% @ite_false.{1}) ∧
    (type_of% @Bool.false_eq_true) ∧
    (type_of% @Option.bind_some.{0, 0}) ∧
    (type_of% @Option.bind_none.{0, 0}) ∧
    (type_of% @Option.map_some.{0, 0}) ∧
    (type_of% @Option.some.injEq.{0}) ∧
    (type_of% @List.getD_cons_zero.{0}) ∧
    (type_of% @List.getD_cons_succ.{0}) ∧
    (type_of% @List.getD_nil.{0}) ∧
    (type_of% @List.map_cons.{0, 0}) ∧
    (type_of% @List.map_nil.{0, 0}) ∧
    (type_of% @List.length_cons.{0}) ∧
    (type_of% @List.length_nil.{0}) ∧
    (type_of% @List.getElem?_cons_zero.{0}) ∧
    (type_of% @List.getElem?_cons_succ.{0}) ∧
    (type_of% @List.getElem?_nil.{0}) ∧
    (type_of% @List.drop_zero.{0}) ∧
    (type_of% @List.drop_succ_cons.{0}) ∧
    (type_of% @List.drop_nil.{0}) ∧
    (type_of% @List.take_zero.{0}) ∧
    (type_of% @List.take_succ_cons.{0}) ∧
    (type_of% @List.take_nil.{0}) ∧
    (type_of% @List.cons_append.{0}) ∧
    (type_of% @List.nil_append.{0}) ∧
    (type_of% @List.append_nil.{0}) ∧
    (type_of% @List.set_cons_zero.{0}) ∧
    (type_of% @List.set_cons_succ.{0}) ∧
    (type_of% @List.mapM_cons.{0, 0, 0}) ∧
    (type_of% @List.mapM_nil.{0, 0, 0}) ∧
    (type_of% @Option.pure_def.{0}) ∧
    (type_of% @Option.bind_eq_bind.{0}) ∧
    (type_of% @List.flatten_cons.{0}) ∧
    (type_of% @List.flatten_nil.{0}) ∧
    (type_of% @List.replicate_succ.{0}) ∧
    (type_of% @List.replicate_zero.{0}) ∧
    (type_of% @List.range_succ) ∧
    (type_of% @List.range_zero) ∧
    (type_of% @List.foldl_cons.{0, 0}) ∧
    (type_of% @List.foldl_nil.{0, 0}) ∧
    (type_of% @BEq.rfl.{0}) ∧
    (type_of% @beq_self_eq_true.{0}) ∧
    (type_of% @Nat.zero_add) ∧
    (type_of% @Nat.add_zero) ∧
    (type_of% @Nat.zero_mul) ∧
    (type_of% @Nat.mul_zero) ∧
    (type_of% @Nat.one_mul) ∧
    (type_of% @Nat.mul_one) ∧
    (type_of% @Bool.not_true) ∧
    (type_of% @Bool.not_false) ∧
    (type_of% @ne_eq.{1}) ∧
    (type_of% @not_true_eq_false) ∧
    (type_of% @not_false_eq_true) ∧
    (type_of% @Array.getD_eq_getD_getElem?.{0}) ∧
    (type_of% @List.getElem?_toArray.{0}) ∧
    (type_of% @Option.getD_some.{0}) ∧
    (type_of% @Int.toNat_zero) ∧
    (type_of% @Int.toNat_one) ∧
    (type_of% @Nat.le_refl) ∧
    (type_of% @Int.le_refl) ∧
    (type_of% @unary_not) ∧
    (type_of% @unary_neg) ∧
    (type_of% @Option.isSome_none.{0}) ∧
    (type_of% @Option.isSome_some.{0}) ∧
    (type_of% @Int.toNat_natCast) ∧
    (type_of% @Int.cast_ofNat_Int) ∧
    (type_of% @Nat.sub_zero) ∧
    (type_of% @beqT) ∧
    (type_of% @beqF) ∧
    (type_of% @eq_self.{1}) :=
  ⟨@ax_skip, @ax_label, @ax_ret, @ax_exit, @ax_seq, @ax_cond, @ax_region, @ax_draw, @ax_loop, @ACond_true, @ACond_false, @List.all_cons.{0}, @List.all_nil.{0}, @AOps_nil, @AOps_cons, @AOpsD_nil, @AOpsD_cons, @decide_true, @decide_false, @Bool.and_self, @Bool.and_true, @Bool.true_and, @true_and, @and_true, @if_true.{1}, @if_false.{1}, @ite_true.{1}, @ite_false.{1}, @Bool.false_eq_true, @Option.bind_some.{0, 0}, @Option.bind_none.{0, 0}, @Option.map_some.{0, 0}, @Option.some.injEq.{0}, @List.getD_cons_zero.{0}, @List.getD_cons_succ.{0}, @List.getD_nil.{0}, @List.map_cons.{0, 0}, @List.map_nil.{0, 0}, @List.length_cons.{0}, @List.length_nil.{0}, @List.getElem?_cons_zero.{0}, @List.getElem?_cons_succ.{0}, @List.getElem?_nil.{0}, @List.drop_zero.{0}, @List.drop_succ_cons.{0}, @List.drop_nil.{0}, @List.take_zero.{0}, @List.take_succ_cons.{0}, @List.take_nil.{0}, @List.cons_append.{0}, @List.nil_append.{0}, @List.append_nil.{0}, @List.set_cons_zero.{0}, @List.set_cons_succ.{0}, @List.mapM_cons.{0, 0, 0}, @List.mapM_nil.{0, 0, 0}, @Option.pure_def.{0}, @Option.bind_eq_bind.{0}, @List.flatten_cons.{0}, @List.flatten_nil.{0}, @List.replicate_succ.{0}, @List.replicate_zero.{0}, @List.range_succ, @List.range_zero, @List.foldl_cons.{0, 0}, @List.foldl_nil.{0, 0}, @BEq.rfl.{0}, @beq_self_eq_true.{0}, @Nat.zero_add, @Nat.add_zero, @Nat.zero_mul, @Nat.mul_zero, @Nat.one_mul, @Nat.mul_one, @Bool.not_true, @Bool.not_false, @ne_eq.{1}, @not_true_eq_false, @not_false_eq_true, @Array.getD_eq_getD_getElem?.{0}, @List.getElem?_toArray.{0}, @Option.getD_some.{0}, @Int.toNat_zero, @Int.toNat_one, @Nat.le_refl, @Int.le_refl, @unary_not, @unary_neg, @Option.isSome_none.{0}, @Option.isSome_some.{0}, @Int.toNat_natCast, @Int.cast_ofNat_Int, @Nat.sub_zero, @beqT, @beqF, @eq_self.{1}⟩
section
variable {P : Program} {N : Nat} {Q : Exit → AS → Prop} {st : AS}
/-- Code cut behind a part of it: what is normal there is told, what goes out goes out. -/
theorem ax_cut {c : Code} (R : AS → Prop) (h1 : ax P N c (AThen R Q) st) (h2 : ∀ s, R s → Q .normal s) : ax P N c Q st := by
  rw [ax_eq] at h1 ⊢
  refine axd_mono c _ _ st h1 ?_
  intro e s hs
  cases e with
  | normal => exact h2 s hs
  | _ => exact hs
end
theorem valK_hit {m : List (Int × Int)} {k : Int} {p : Nat} {x : Int × Int} (h : m[p]? = some x) (hx : decide (x.1 = k) = true) (hq : ∀ (q : Nat) (y : Int × Int), q < p → m[q]? = some y → decide (y.1 = k) = false) : valK m k = x.2 := by
  have e : m.find? (fun x => decide (x.1 = k)) = some x := by
    obtain ⟨b, hb⟩ := take_mem h
    rw [hb, List.find?_append]
    have : (m.take p).find? (fun x => decide (x.1 = k)) = none := by
      rw [List.find?_eq_none]
      intro y hy
      obtain ⟨q, hq1, rfl⟩ := List.mem_iff_getElem.1 hy
      have hq2 : q < p := by simp at hq1; omega
      rw [hq q _ hq2 (by rw [List.getElem_take, List.getElem?_eq_getElem])]
      simp
    rw [this, List.find?_cons, hx]; rfl
  unfold valK
  rw [e]
theorem valK_miss {m : List (Int × Int)} {k : Int} (hq : ∀ y ∈ m, decide (y.1 = k) = false) : valK m k = 0 := by
  have e : m.find? (fun x => decide (x.1 = k)) = none := List.find?_eq_none.2 fun y hy => by rw [hq y hy]; simp
  unfold valK
  rw [e]
theorem see5da40 {p : Prop} (h : p := by repeat' (first | exact True.intro | exact Sees.sc | exact Sees.none | ((with_reducible refine Sees.same ?_) <;> simp [noIds, noIdsL, noIdsE, noIdsE_U, noIdsE_UU, noIdsE_PR] <;> fail) | (refine Live.sees ?_ ?_ <;> first | assumption | (simp [noIdsE_U, noIdsE_UU, noIdsE_PR] <;> fail)) | (refine Sees.obj ?_ ?_ ?_ <;> first | exact ⟨_, _, by assumption, rfl⟩ | (simp [U_len, UU_len, PR_len] <;> fail) | (simp [noIdsE_U, noIdsE_UU, noIdsE_PR] <;> fail) | (simp [U, UU, upd] <;> fail) | (simp [U, UU, upd, neS, *] <;> fail)) | (refine Sees.of_seen 3 ?_ <;> simp [seen, upd, noIdsE, noIdsL, noIds, U, UU, Nat.add_assoc] <;> fail) | refine Sees.agg ?_ | refine And.intro ?_ ?_ | simp only [SeesL])) : p := h
theorem cFits (m : List (Int × Int)) (o : LOp) (a : LAns) (hm : m.length ≤ 1000000) (hl : a.out.length ≤ 1000000) : PCalls Try.prog 24 [.lst 2 (PR m), .agg o.cells, .agg a.cells] (.sc (.bool (fitsB m o a))) := by
  unfold LOp.cells LAns.cells
  have co := cOut m a.out hm hl
  refine PCalls.intro2 Try.func24 rfl rfl Try.ntmps24 Try.results24 (by simp) fun n => ?_; simp (maxSteps := 400000) (dsimp := false) only [axs, axw, aresL, afill, Value.oneCell', Nat.reduceLT, Nat.reduceLeDiff, Nat.reduceEqDiff, Nat.reduceAdd, Nat.reduceMul, Nat.reduceSub, Nat.reduceBEq, Int.reduceLE, Int.reduceLT, Int.reduceToNat, Int.reduceNeg, Int.reduceEq, axt, ftK, ft3, AAll, ftQ, tys]
  refine ACallK.strict rfl (cAt m o.key hm) (by simp only [SeesL, axs, axt, AS.ev, AS.put, upd, inHeap, Nat.reduceLT, Nat.reduceEqDiff, Nat.reduceAdd, Nat.reduceBEq]; exact see5da40) ?_; simp (maxSteps := 400000) (dsimp := false) only [axn, axw, aresL, afill, Value.oneCell', Nat.reduceLT, Nat.reduceLeDiff, Nat.reduceEqDiff, Nat.reduceAdd, Nat.reduceMul, Nat.reduceSub, Nat.reduceBEq, Int.reduceLE, Int.reduceLT, Int.reduceToNat, Int.reduceNeg, Int.reduceEq, axt, ftK, ft3, AAll, ftQ, tys]
  refine ax_cut (fun s => s.t 0 = .lst 2 (PR m) ∧ s.t 5 = .ptr (n + 1) 5 0 0 ∧ s.t 7 = .ptr (n + 1 + 1) 5 0 0 ∧ s.H (n + 1) = some (.obj 61 5 [[.sc (.bool a.hit), .sc (.int .u64 a.val), .sc (.int .i64 a.n), .lst 2 (PR a.out), .sc (.int .i64 a.err)]] false) ∧ s.H (n + 1 + 1) = some (.obj 61 5 [[.sc (.bool (want m o a).hit), .sc (.int .u64 (want m o a).val), .sc (.int .i64 (want m o a).n), .sc (.slice none 0 0), .sc (.int .i64 (want m o a).err)]] false) ∧ (mayOut m o || decide (a.out = [])) = true) ?_ ?_
  · have hfalse : mayOut m o = false → a.out ≠ [] → fitsB m o a = false := fun h1 h2 => by unfold fitsB; rw [h1, decide_eq_false h2]; rfl
    have hok : mayOut m o = true ∨ a.out = [] → (mayOut m o || decide (a.out = [])) = true := fun h => by rcases h with h | h <;> simp [h]
    have hlen0 : a.out = [] → ¬ (a.out.length : Int) > 0 := fun h => by rw [h]; simp
    have hlen1 : a.out ≠ [] → (a.out.length : Int) > 0 := fun h => by have := List.length_pos_iff.2 h; omega
    by_cases k123 : o.kind = 1 ∨ o.kind = 3 ∨ o.kind = 2
    rotate_left
    · have k1 : ¬ o.kind = 1 := fun h => k123 (.inl h)
      have k3 : ¬ o.kind = 3 := fun h => k123 (.inr (.inl h))
      have k2 : ¬ o.kind = 2 := fun h => k123 (.inr (.inr h))
      by_cases k5 : o.kind = 5
      · have hw1 : (want m o a).hit = false ∧ (want m o a).val = 0 ∧ (want m o a).n = m.length ∧ (want m o a).err = 0 := by simp [want, is123, k5]
        have hmay : mayOut m o = false := by simp [mayOut, k5]
        by_cases ho : a.out = []
        · have z := hlen0 ho
          have hR := hok (.inr ho)
          simp (maxSteps := 400000) (dsimp := false) only [k5, PR_len, hw1, z, hR, axs, axw, aresL, afill, Value.oneCell', Nat.reduceLT, Nat.reduceLeDiff, Nat.reduceEqDiff, Nat.reduceAdd, Nat.reduceMul, Nat.reduceSub, Nat.reduceBEq, Int.reduceLE, Int.reduceLT, Int.reduceToNat, Int.reduceNeg, Int.reduceEq, axt, ftK, ft3, AAll, ftQ, tys]
          first | done | trace_state
        · have z := hlen1 ho
          have hF := hfalse hmay ho
          simp (maxSteps := 400000) (dsimp := false) only [k5, PR_len, hw1, z, hF, axs, axw, aresL, afill, Value.oneCell', Nat.reduceLT, Nat.reduceLeDiff, Nat.reduceEqDiff, Nat.reduceAdd, Nat.reduceMul, Nat.reduceSub, Nat.reduceBEq, Int.reduceLE, Int.reduceLT, Int.reduceToNat, Int.reduceNeg, Int.reduceEq, axt, ftK, ft3, AAll, ftQ, tys]
          exact ⟨_, rfl, Sees.sc⟩
      · by_cases k4 : o.kind = 4
        · have hmay : mayOut m o = true := by simp [mayOut, k4]
          have hR := hok (.inl hmay)
          by_cases he : a.err = 1
          · by_cases ho : a.out = []
            · have hw1 : (want m o a).hit = false ∧ (want m o a).val = 0 ∧ (want m o a).n = 0 ∧ (want m o a).err = 1 := by simp [want, is123, k4, he, ho]
              have z : (a.out.length : Int) = 0 := by rw [ho]; rfl
              simp (maxSteps := 400000) (dsimp := false) only [k4, PR_len, hw1, hR, he, eq_true z, axs, axw, aresL, afill, Value.oneCell', Nat.reduceLT, Nat.reduceLeDiff, Nat.reduceEqDiff, Nat.reduceAdd, Nat.reduceMul, Nat.reduceSub, Nat.reduceBEq, Int.reduceLE, Int.reduceLT, Int.reduceToNat, Int.reduceNeg, Int.reduceEq, axt, ftK, ft3, AAll, ftQ, tys]
              first | done | trace_state
            · have hw1 : (want m o a).hit = false ∧ (want m o a).val = 0 ∧ (want m o a).n = 0 ∧ (want m o a).err = 0 := by simp [want, is123, k4, he, ho]
              have z : ¬ (a.out.length : Int) = 0 := by have := hlen1 ho; omega
              simp (maxSteps := 400000) (dsimp := false) only [k4, PR_len, hw1, hR, eq_true he, z, axs, axw, aresL, afill, Value.oneCell', Nat.reduceLT, Nat.reduceLeDiff, Nat.reduceEqDiff, Nat.reduceAdd, Nat.reduceMul, Nat.reduceSub, Nat.reduceBEq, Int.reduceLE, Int.reduceLT, Int.reduceToNat, Int.reduceNeg, Int.reduceEq, axt, ftK, ft3, AAll, ftQ, tys]
              first | done | trace_state
          · have hw1 : (want m o a).hit = false ∧ (want m o a).val = 0 ∧ (want m o a).n = 0 ∧ (want m o a).err = 0 := by simp [want, is123, k4, he]
            simp (maxSteps := 400000) (dsimp := false) only [k4, PR_len, hw1, hR, he, axs, axw, aresL, afill, Value.oneCell', Nat.reduceLT, Nat.reduceLeDiff, Nat.reduceEqDiff, Nat.reduceAdd, Nat.reduceMul, Nat.reduceSub, Nat.reduceBEq, Int.reduceLE, Int.reduceLT, Int.reduceToNat, Int.reduceNeg, Int.reduceEq, axt, ftK, ft3, AAll, ftQ, tys]
            first | done | trace_state
        · have hw1 : (want m o a).hit = false ∧ (want m o a).val = 0 ∧ (want m o a).n = 0 ∧ (want m o a).err = 2 := by simp [want, is123, k1, k2, k3, k4, k5]
          have hmay : mayOut m o = false := by simp [mayOut, k2, k4]
          by_cases ho : a.out = []
          · have z := hlen0 ho
            have hR := hok (.inr ho)
            simp (maxSteps := 400000) (dsimp := false) only [k1, k2, k3, k4, k5, PR_len, hw1, z, hR, axs, axw, aresL, afill, Value.oneCell', Nat.reduceLT, Nat.reduceLeDiff, Nat.reduceEqDiff, Nat.reduceAdd, Nat.reduceMul, Nat.reduceSub, Nat.reduceBEq, Int.reduceLE, Int.reduceLT, Int.reduceToNat, Int.reduceNeg, Int.reduceEq, axt, ftK, ft3, AAll, ftQ, tys]
            first | done | trace_state
          · have z := hlen1 ho
            have hF := hfalse hmay ho
            simp (maxSteps := 400000) (dsimp := false) only [k1, k2, k3, k4, k5, PR_len, hw1, z, hF, axs, axw, aresL, afill, Value.oneCell', Nat.reduceLT, Nat.reduceLeDiff, Nat.reduceEqDiff, Nat.reduceAdd, Nat.reduceMul, Nat.reduceSub, Nat.reduceBEq, Int.reduceLE, Int.reduceLT, Int.reduceToNat, Int.reduceNeg, Int.reduceEq, axt, ftK, ft3, AAll, ftQ, tys]
            exact ⟨_, rfl, Sees.sc⟩
    rcases idxT_cases (fun x => decide (x.1 = o.key)) m with ⟨hk, hq⟩ | ⟨p, x, hk, hx, hxt, hq⟩
    · have hk : idxK m o.key = -1 := hk
      have hv := valK_miss hq
      have am : ¬ ((-1 : Int) ≥ 0) := by omega
      by_cases k1 : o.kind = 1
      · have hw1 : (want m o a).hit = false ∧ (want m o a).val = 0 ∧ (want m o a).n = 0 ∧ (want m o a).err = 0 := by simp [want, is123, k1, hk, hv]
        have hmay : mayOut m o = false := by simp [mayOut, k1]
        by_cases ho : a.out = []
        · have z := hlen0 ho
          have hR := hok (.inr ho)
          simp (maxSteps := 400000) (dsimp := false) only [k1, hk, am, PR_len, hw1, z, hR, axs, axw, aresL, afill, Value.oneCell', Nat.reduceLT, Nat.reduceLeDiff, Nat.reduceEqDiff, Nat.reduceAdd, Nat.reduceMul, Nat.reduceSub, Nat.reduceBEq, Int.reduceLE, Int.reduceLT, Int.reduceToNat, Int.reduceNeg, Int.reduceEq, axt, ftK, ft3, AAll, ftQ, tys]
          first | done | trace_state
        · have z := hlen1 ho
          have hF := hfalse hmay ho
          simp (maxSteps := 400000) (dsimp := false) only [k1, hk, am, PR_len, hw1, z, hF, axs, axw, aresL, afill, Value.oneCell', Nat.reduceLT, Nat.reduceLeDiff, Nat.reduceEqDiff, Nat.reduceAdd, Nat.reduceMul, Nat.reduceSub, Nat.reduceBEq, Int.reduceLE, Int.reduceLT, Int.reduceToNat, Int.reduceNeg, Int.reduceEq, axt, ftK, ft3, AAll, ftQ, tys]
          exact ⟨_, rfl, Sees.sc⟩
      ·
        by_cases k3 : o.kind = 3
        · have hw1 : (want m o a).hit = false ∧ (want m o a).val = 0 ∧ (want m o a).n = 0 ∧ (want m o a).err = 0 := by simp [want, is123, k3, hk, hv]
          have hmay : mayOut m o = false := by simp [mayOut, k3]
          by_cases ho : a.out = []
          · have z := hlen0 ho
            have hR := hok (.inr ho)
            simp (maxSteps := 400000) (dsimp := false) only [k3, hk, am, PR_len, hw1, z, hR, axs, axw, aresL, afill, Value.oneCell', Nat.reduceLT, Nat.reduceLeDiff, Nat.reduceEqDiff, Nat.reduceAdd, Nat.reduceMul, Nat.reduceSub, Nat.reduceBEq, Int.reduceLE, Int.reduceLT, Int.reduceToNat, Int.reduceNeg, Int.reduceEq, axt, ftK, ft3, AAll, ftQ, tys]
            first | done | trace_state
          · have z := hlen1 ho
            have hF := hfalse hmay ho
            simp (maxSteps := 400000) (dsimp := false) only [k3, hk, am, PR_len, hw1, z, hF, axs, axw, aresL, afill, Value.oneCell', Nat.reduceLT, Nat.reduceLeDiff, Nat.reduceEqDiff, Nat.reduceAdd, Nat.reduceMul, Nat.reduceSub, Nat.reduceBEq, Int.reduceLE, Int.reduceLT, Int.reduceToNat, Int.reduceNeg, Int.reduceEq, axt, ftK, ft3, AAll, ftQ, tys]
            exact ⟨_, rfl, Sees.sc⟩
        ·
          by_cases k2 : o.kind = 2
          · have hw1 : (want m o a).hit = false ∧ (want m o a).val = 0 ∧ (want m o a).n = 0 ∧ (want m o a).err = 0 := by simp [want, is123, k2, hk, hv]
            have hmay : mayOut m o = true := by simp [mayOut, k2, hk]
            have hR := hok (.inl hmay)
            simp (maxSteps := 400000) (dsimp := false) only [k2, hk, am, PR_len, hw1, hR, axs, axw, aresL, afill, Value.oneCell', Nat.reduceLT, Nat.reduceLeDiff, Nat.reduceEqDiff, Nat.reduceAdd, Nat.reduceMul, Nat.reduceSub, Nat.reduceBEq, Int.reduceLE, Int.reduceLT, Int.reduceToNat, Int.reduceNeg, Int.reduceEq, axt, ftK, ft3, AAll, ftQ, tys]
            first | done | trace_state
          ·
            exfalso; omega
    · have hk : idxK m o.key = p := hk
      have hv := valK_hit hx hxt hq
      have hge : (p : Int) ≥ 0 := by omega
      have hp0 : (0 : Int) ≤ (p : Int) := by omega
      have hpl : (p : Int) < m.length := by have := (List.getElem?_eq_some_iff.1 hx).1; omega
      have hg := PR_get hx
      by_cases k1 : o.kind = 1
      · have hw1 : (want m o a).hit = true ∧ (want m o a).val = x.2 ∧ (want m o a).n = 0 ∧ (want m o a).err = 0 := by simp [want, is123, k1, hk, hv]
        have hmay : mayOut m o = false := by simp [mayOut, k1]
        simp (maxSteps := 400000) (dsimp := false) only [k1, hk, hge, axs, axw, aresL, afill, Value.oneCell', Nat.reduceLT, Nat.reduceLeDiff, Nat.reduceEqDiff, Nat.reduceAdd, Nat.reduceMul, Nat.reduceSub, Nat.reduceBEq, Int.reduceLE, Int.reduceLT, Int.reduceToNat, Int.reduceNeg, Int.reduceEq, axt, ftK, ft3, AAll, ftQ, tys]
        refine ADraw.via (fun s => s.t 0 = .lst 2 (PR m) ∧ s.t 4 = .ptr n 4 0 0 ∧ s.t 5 = .ptr (n + 1) 5 0 0 ∧ s.t 7 = .ptr (n + 1 + 1) 5 0 0 ∧ s.H n = some (.obj 65 4 [[.sc (.int .i64 o.kind), .sc (.int .u64 o.key), .sc (.int .u64 o.val), .sc (.int .i64 o.n)]] false) ∧ s.H (n + 1) = some (.obj 61 5 [[.sc (.bool a.hit), .sc (.int .u64 a.val), .sc (.int .i64 a.n), .lst 2 (PR a.out), .sc (.int .i64 a.err)]] false) ∧ s.H (n + 1 + 1) = some (.obj 61 5 [[.sc (.bool true), .sc (.int .u64 x.2), .sc (.int .i64 0), .sc (.slice none 0 0), .sc (.int .i64 0)]] false)) ?_ ?_
        · refine ADraw.tree [] [(0, true), (1, true), (2, true), (3, true), (5, true)] 3 (.leaf [(4, true), (6, true), (7, true), (8, true)]) (.leaf [(6, true), (4, true), (7, true), (8, true)]) mixed (by kernel_rfl) ?_
          simp (maxSteps := 400000) (dsimp := false) only [hp0, hpl, hg, PR_len, k1, axs, axw, aresL, afill, Value.oneCell', Nat.reduceLT, Nat.reduceLeDiff, Nat.reduceEqDiff, Nat.reduceAdd, Nat.reduceMul, Nat.reduceSub, Nat.reduceBEq, Int.reduceLE, Int.reduceLT, Int.reduceToNat, Int.reduceNeg, Int.reduceEq, axt, ftK, ft3, AAll, ftQ, tys]
          first | done | trace_state
        · rintro s _ ⟨g0, g4, g5, g7, gH0, gH1, gH2⟩
          by_cases ho : a.out = []
          · have z := hlen0 ho
            have hR := hok (.inr ho)
            simp (maxSteps := 400000) (dsimp := false) only [k1, g0, g4, g5, g7, gH0, gH1, gH2, PR_len, hw1, z, hR, axs, axw, aresL, afill, Value.oneCell', Nat.reduceLT, Nat.reduceLeDiff, Nat.reduceEqDiff, Nat.reduceAdd, Nat.reduceMul, Nat.reduceSub, Nat.reduceBEq, Int.reduceLE, Int.reduceLT, Int.reduceToNat, Int.reduceNeg, Int.reduceEq, axt, ftK, ft3, AAll, ftQ, tys]
            first | done | trace_state
          · have z := hlen1 ho
            have hF := hfalse hmay ho
            simp (maxSteps := 400000) (dsimp := false) only [k1, g0, g4, g5, g7, gH0, gH1, gH2, PR_len, hw1, z, hF, axs, axw, aresL, afill, Value.oneCell', Nat.reduceLT, Nat.reduceLeDiff, Nat.reduceEqDiff, Nat.reduceAdd, Nat.reduceMul, Nat.reduceSub, Nat.reduceBEq, Int.reduceLE, Int.reduceLT, Int.reduceToNat, Int.reduceNeg, Int.reduceEq, axt, ftK, ft3, AAll, ftQ, tys]
            exact ⟨_, rfl, Sees.sc⟩
      ·
        by_cases k3 : o.kind = 3
        · have hw1 : (want m o a).hit = true ∧ (want m o a).val = x.2 ∧ (want m o a).n = 0 ∧ (want m o a).err = 0 := by simp [want, is123, k3, hk, hv]
          have hmay : mayOut m o = false := by simp [mayOut, k3]
          simp (maxSteps := 400000) (dsimp := false) only [k3, hk, hge, axs, axw, aresL, afill, Value.oneCell', Nat.reduceLT, Nat.reduceLeDiff, Nat.reduceEqDiff, Nat.reduceAdd, Nat.reduceMul, Nat.reduceSub, Nat.reduceBEq, Int.reduceLE, Int.reduceLT, Int.reduceToNat, Int.reduceNeg, Int.reduceEq, axt, ftK, ft3, AAll, ftQ, tys]
          refine ADraw.via (fun s => s.t 0 = .lst 2 (PR m) ∧ s.t 4 = .ptr n 4 0 0 ∧ s.t 5 = .ptr (n + 1) 5 0 0 ∧ s.t 7 = .ptr (n + 1 + 1) 5 0 0 ∧ s.H n = some (.obj 65 4 [[.sc (.int .i64 o.kind), .sc (.int .u64 o.key), .sc (.int .u64 o.val), .sc (.int .i64 o.n)]] false) ∧ s.H (n + 1) = some (.obj 61 5 [[.sc (.bool a.hit), .sc (.int .u64 a.val), .sc (.int .i64 a.n), .lst 2 (PR a.out), .sc (.int .i64 a.err)]] false) ∧ s.H (n + 1 + 1) = some (.obj 61 5 [[.sc (.bool true), .sc (.int .u64 x.2), .sc (.int .i64 0), .sc (.slice none 0 0), .sc (.int .i64 0)]] false)) ?_ ?_
          · refine ADraw.tree [] [(0, true), (1, true), (2, true), (3, true), (5, true)] 3 (.leaf [(4, true), (6, true), (7, true), (8, true)]) (.leaf [(6, true), (4, true), (7, true), (8, true)]) mixed (by kernel_rfl) ?_
            simp (maxSteps := 400000) (dsimp := false) only [hp0, hpl, hg, PR_len, k3, axs, axw, aresL, afill, Value.oneCell', Nat.reduceLT, Nat.reduceLeDiff, Nat.reduceEqDiff, Nat.reduceAdd, Nat.reduceMul, Nat.reduceSub, Nat.reduceBEq, Int.reduceLE, Int.reduceLT, Int.reduceToNat, Int.reduceNeg, Int.reduceEq, axt, ftK, ft3, AAll, ftQ, tys]
            first | done | trace_state
          · rintro s _ ⟨g0, g4, g5, g7, gH0, gH1, gH2⟩
            by_cases ho : a.out = []
            · have z := hlen0 ho
              have hR := hok (.inr ho)
              simp (maxSteps := 400000) (dsimp := false) only [k3, g0, g4, g5, g7, gH0, gH1, gH2, PR_len, hw1, z, hR, axs, axw, aresL, afill, Value.oneCell', Nat.reduceLT, Nat.reduceLeDiff, Nat.reduceEqDiff, Nat.reduceAdd, Nat.reduceMul, Nat.reduceSub, Nat.reduceBEq, Int.reduceLE, Int.reduceLT, Int.reduceToNat, Int.reduceNeg, Int.reduceEq, axt, ftK, ft3, AAll, ftQ, tys]
              first | done | trace_state
            · have z := hlen1 ho
              have hF := hfalse hmay ho
              simp (maxSteps := 400000) (dsimp := false) only [k3, g0, g4, g5, g7, gH0, gH1, gH2, PR_len, hw1, z, hF, axs, axw, aresL, afill, Value.oneCell', Nat.reduceLT, Nat.reduceLeDiff, Nat.reduceEqDiff, Nat.reduceAdd, Nat.reduceMul, Nat.reduceSub, Nat.reduceBEq, Int.reduceLE, Int.reduceLT, Int.reduceToNat, Int.reduceNeg, Int.reduceEq, axt, ftK, ft3, AAll, ftQ, tys]
              exact ⟨_, rfl, Sees.sc⟩
        ·
          by_cases k2 : o.kind = 2
          · have hw1 : (want m o a).hit = true ∧ (want m o a).val = x.2 ∧ (want m o a).n = 0 ∧ (want m o a).err = 0 := by simp [want, is123, k2, hk, hv]
            have hmay : mayOut m o = false := by simp [mayOut, k2, hk]
            simp (maxSteps := 400000) (dsimp := false) only [k2, hk, hge, axs, axw, aresL, afill, Value.oneCell', Nat.reduceLT, Nat.reduceLeDiff, Nat.reduceEqDiff, Nat.reduceAdd, Nat.reduceMul, Nat.reduceSub, Nat.reduceBEq, Int.reduceLE, Int.reduceLT, Int.reduceToNat, Int.reduceNeg, Int.reduceEq, axt, ftK, ft3, AAll, ftQ, tys]
            refine ADraw.via (fun s => s.t 0 = .lst 2 (PR m) ∧ s.t 4 = .ptr n 4 0 0 ∧ s.t 5 = .ptr (n + 1) 5 0 0 ∧ s.t 7 = .ptr (n + 1 + 1) 5 0 0 ∧ s.H n = some (.obj 65 4 [[.sc (.int .i64 o.kind), .sc (.int .u64 o.key), .sc (.int .u64 o.val), .sc (.int .i64 o.n)]] false) ∧ s.H (n + 1) = some (.obj 61 5 [[.sc (.bool a.hit), .sc (.int .u64 a.val), .sc (.int .i64 a.n), .lst 2 (PR a.out), .sc (.int .i64 a.err)]] false) ∧ s.H (n + 1 + 1) = some (.obj 61 5 [[.sc (.bool true), .sc (.int .u64 x.2), .sc (.int .i64 0), .sc (.slice none 0 0), .sc (.int .i64 0)]] false)) ?_ ?_
            · refine ADraw.tree [] [(0, true), (1, true), (2, true), (3, true), (5, true)] 3 (.leaf [(4, true), (6, true), (7, true), (8, true)]) (.leaf [(6, true), (4, true), (7, true), (8, true)]) mixed (by kernel_rfl) ?_
              simp (maxSteps := 400000) (dsimp := false) only [hp0, hpl, hg, PR_len, k2, axs, axw, aresL, afill, Value.oneCell', Nat.reduceLT, Nat.reduceLeDiff, Nat.reduceEqDiff, Nat.reduceAdd, Nat.reduceMul, Nat.reduceSub, Nat.reduceBEq, Int.reduceLE, Int.reduceLT, Int.reduceToNat, Int.reduceNeg, Int.reduceEq, axt, ftK, ft3, AAll, ftQ, tys]
              first | done | trace_state
            · rintro s _ ⟨g0, g4, g5, g7, gH0, gH1, gH2⟩
              by_cases ho : a.out = []
              · have z := hlen0 ho
                have hR := hok (.inr ho)
                simp (maxSteps := 400000) (dsimp := false) only [k2, g0, g4, g5, g7, gH0, gH1, gH2, PR_len, hw1, z, hR, axs, axw, aresL, afill, Value.oneCell', Nat.reduceLT, Nat.reduceLeDiff, Nat.reduceEqDiff, Nat.reduceAdd, Nat.reduceMul, Nat.reduceSub, Nat.reduceBEq, Int.reduceLE, Int.reduceLT, Int.reduceToNat, Int.reduceNeg, Int.reduceEq, axt, ftK, ft3, AAll, ftQ, tys]
                first | done | trace_state
              · have z := hlen1 ho
                have hF := hfalse hmay ho
                simp (maxSteps := 400000) (dsimp := false) only [k2, g0, g4, g5, g7, gH0, gH1, gH2, PR_len, hw1, z, hF, axs, axw, aresL, afill, Value.oneCell', Nat.reduceLT, Nat.reduceLeDiff, Nat.reduceEqDiff, Nat.reduceAdd, Nat.reduceMul, Nat.reduceSub, Nat.reduceBEq, Int.reduceLE, Int.reduceLT, Int.reduceToNat, Int.reduceNeg, Int.reduceEq, axt, ftK, ft3, AAll, ftQ, tys]
                exact ⟨_, rfl, Sees.sc⟩
          ·
            exfalso; omega
  · rintro s ⟨h0, h5, h7, H5, H7, hmo⟩
    unfold fitsB
    rw [hmo, Bool.true_and]
    generalize want m o a = w at *
    by_cases e1 : a.hit = w.hit
    · rw [decide_eq_true e1, Bool.true_and]
      by_cases e2 : a.val = w.val
      · rw [decide_eq_true e2, Bool.true_and]
        by_cases e3 : a.n = w.n
        · rw [decide_eq_true e3, Bool.true_and]
          by_cases e4 : a.err = w.err
          · rw [decide_eq_true e4, Bool.true_and]
            simp (maxSteps := 400000) (dsimp := false) only [h0, h5, h7, H5, H7, e1, e2, e3, e4, axs, axw, aresL, afill, Value.oneCell', Nat.reduceLT, Nat.reduceLeDiff, Nat.reduceEqDiff, Nat.reduceAdd, Nat.reduceMul, Nat.reduceSub, Nat.reduceBEq, Int.reduceLE, Int.reduceLT, Int.reduceToNat, Int.reduceNeg, Int.reduceEq, axt, ftK, ft3, AAll, ftQ, tys]
            refine ACallK.strict rfl (co) (by simp only [SeesL, h0, h5, h7, H5, H7, axs, axt, AS.ev, AS.put, upd, inHeap, Nat.reduceLT, Nat.reduceEqDiff, Nat.reduceAdd, Nat.reduceBEq]; exact see5da40) ?_; simp (maxSteps := 400000) (dsimp := false) only [h0, h5, h7, H5, H7, axs, axw, aresL, afill, Value.oneCell', Nat.reduceLT, Nat.reduceLeDiff, Nat.reduceEqDiff, Nat.reduceAdd, Nat.reduceMul, Nat.reduceSub, Nat.reduceBEq, Int.reduceLE, Int.reduceLT, Int.reduceToNat, Int.reduceNeg, Int.reduceEq, axt, ftK, ft3, AAll, ftQ, tys]
            exact ⟨_, rfl, Sees.sc⟩
          · rw [decide_eq_false e4, Bool.false_and]
            simp (maxSteps := 400000) (dsimp := false) only [h0, h5, h7, H5, H7, e1, e2, e3, e4, axs, axw, aresL, afill, Value.oneCell', Nat.reduceLT, Nat.reduceLeDiff, Nat.reduceEqDiff, Nat.reduceAdd, Nat.reduceMul, Nat.reduceSub, Nat.reduceBEq, Int.reduceLE, Int.reduceLT, Int.reduceToNat, Int.reduceNeg, Int.reduceEq, axt, ftK, ft3, AAll, ftQ, tys]
            exact ⟨_, rfl, Sees.sc⟩
        · rw [decide_eq_false e3, Bool.false_and]
          simp (maxSteps := 400000) (dsimp := false) only [h0, h5, h7, H5, H7, e1, e2, e3, axs, axw, aresL, afill, Value.oneCell', Nat.reduceLT, Nat.reduceLeDiff, Nat.reduceEqDiff, Nat.reduceAdd, Nat.reduceMul, Nat.reduceSub, Nat.reduceBEq, Int.reduceLE, Int.reduceLT, Int.reduceToNat, Int.reduceNeg, Int.reduceEq, axt, ftK, ft3, AAll, ftQ, tys]
          exact ⟨_, rfl, Sees.sc⟩
      · rw [decide_eq_false e2, Bool.false_and]
        simp (maxSteps := 400000) (dsimp := false) only [h0, h5, h7, H5, H7, e1, e2, axs, axw, aresL, afill, Value.oneCell', Nat.reduceLT, Nat.reduceLeDiff, Nat.reduceEqDiff, Nat.reduceAdd, Nat.reduceMul, Nat.reduceSub, Nat.reduceBEq, Int.reduceLE, Int.reduceLT, Int.reduceToNat, Int.reduceNeg, Int.reduceEq, axt, ftK, ft3, AAll, ftQ, tys]
        exact ⟨_, rfl, Sees.sc⟩
    · rw [decide_eq_false e1, Bool.false_and]
      have e1' : (a.hit == w.hit) = false := by simpa using e1
      simp (maxSteps := 400000) (dsimp := false) only [h0, h5, h7, H5, H7, e1', axs, axw, aresL, afill, Value.oneCell', Nat.reduceLT, Nat.reduceLeDiff, Nat.reduceEqDiff, Nat.reduceAdd, Nat.reduceMul, Nat.reduceSub, Nat.reduceBEq, Int.reduceLE, Int.reduceLT, Int.reduceToNat, Int.reduceNeg, Int.reduceEq, axt, ftK, ft3, AAll, ftQ, tys]
      exact ⟨_, rfl, Sees.sc⟩
end Go.Al
