/- Acts with keys: what the reference tells of them. Conditions: the numbers fit their kinds. What an act evicts, and what stays: of rows of keys alone. Conditions: none. What least recently used does: the program's functions and the reference's, as one. Conditions: the rows are short. What least recently used does, continued: acts. Conditions: the rows are short. -/
import Derived.Test.YtkoimgeckkodhaaRqA
section
set_option linter.unusedVariables false
set_option linter.unusedSimpArgs false
set_option maxRecDepth 20000
namespace Go.Al
open Go.Proofs
structure Deed where
  kind : Int
  key : Int
  num : Int
def Deed.cells (a : Deed) : List AV := [.sc (.int .u8 a.kind), .sc (.int .u64 a.key), .sc (.int .u16 a.num)]
structure Deed.Fits (a : Deed) : Prop where
  k0 : 0 ≤ a.kind
  k1 : a.kind < 256
  y0 : 0 ≤ a.key
  y1 : a.key < 18446744073709551616
  n0 : 0 ≤ a.num
  n1 : a.num < 65536
theorem deed_of {x : List Value} (h : FitK [some .u8, some .u64, some .u16] x) : ∃ a : Deed, a.Fits ∧ x.map AV.sc = a.cells := by
  simp only [FitK] at h
  obtain ⟨a, r, rfl, ha, b, r, rfl, hb, c, r, rfl, hc, rfl⟩ := h
  simp [Lit.wf, IntKind.min, IntKind.max, IntKind.signed, IntKind.bits] at ha hb hc
  exact ⟨⟨a, b, c⟩, ⟨ha.1, by show a < 256; omega, hb.1, by show b < _; omega, hc.1, by show c < _; omega⟩, rfl⟩
def DD (l : List Deed) : List (List AV) := l.map Deed.cells
theorem DD_len (l : List Deed) : (DD l).length = l.length := by simp [DD]
theorem DD_get {l : List Deed} {p : Nat} {x : Deed} (h : l[p]? = some x) : (DD l)[p]? = some [.sc (.int .u8 x.kind), .sc (.int .u64 x.key), .sc (.int .u16 x.num)] := by simp [DD, h, Deed.cells]
theorem noIdsE_DD (l : List Deed) : noIdsE (DD l) = true := noIdsE_map _ (fun x => by simp [Deed.cells, noIdsL, noIds]) l
theorem rows_DD {es : List (List Value)} (h : ∀ x ∈ es, FitK [some .u8, some .u64, some .u16] x) : ∃ l : List Deed, (es.map fun e => e.map AV.sc) = DD l ∧ (∀ a ∈ l, a.Fits) ∧ l.length = es.length :=
  rows_of Deed.cells Deed.Fits (fun x hx => deed_of hx) h
def capOf (c : Int) : Int := if c < 1 then 1 else if c > 1048576 then 1048576 else c
theorem capOf_le (c : Int) : 1 ≤ capOf c ∧ capOf c ≤ 1048576 := by unfold capOf; split <;> (try split) <;> omega
theorem capOf_mm (c : Int) : (if (1048576 : Int) < (if 1 > c then 1 else c) then 1048576 else (if 1 > c then 1 else c)) = capOf c := by
  unfold capOf
  by_cases h1 : (1 : Int) > c
  · have h2 : c < 1 := h1
    simp [h1, h2]
  · have h2 : ¬ c < 1 := h1
    by_cases h3 : (1048576 : Int) < c
    · have h4 : c > 1048576 := h3
      simp [h1, h2, h3, h4]
    · have h4 : ¬ c > 1048576 := h3
      simp [h1, h2, h3, h4]
theorem capOf_same {c : Int} (h1 : 1 ≤ c) (h2 : c ≤ 1048576) : capOf c = c := by unfold capOf; rw [if_neg (by omega), if_neg (by omega)]
theorem rCap (c : Int) : PCalls Try.prog 48 [.sc (.int .i64 c)] (.sc (.int .i64 (capOf c))) := by
  unfold capOf
  refine PCalls.intro2 Try.func48 rfl rfl Try.ntmps48 Try.results48 (by simp) fun n => ?_; simp (maxSteps := 400000) (dsimp := false) only [axs, axw, aresL, afill, Value.oneCell', Nat.reduceLT, Nat.reduceLeDiff, Nat.reduceEqDiff, Nat.reduceAdd, Nat.reduceMul, Nat.reduceSub, Nat.reduceBEq, Int.reduceLE, Int.reduceLT, Int.reduceToNat, Int.reduceNeg, Int.reduceEq, axt, ftK, ft3, AAll, ftQ, tys]
  by_cases h1 : c < 1
  · simp (maxSteps := 400000) (dsimp := false) only [h1, axs, axw, aresL, afill, Value.oneCell', Nat.reduceLT, Nat.reduceLeDiff, Nat.reduceEqDiff, Nat.reduceAdd, Nat.reduceMul, Nat.reduceSub, Nat.reduceBEq, Int.reduceLE, Int.reduceLT, Int.reduceToNat, Int.reduceNeg, Int.reduceEq, axt, ftK, ft3, AAll, ftQ, tys]
    exact ⟨_, rfl, Sees.sc⟩
  · by_cases h2 : c > 1048576
    · simp (maxSteps := 400000) (dsimp := false) only [h1, h2, axs, axw, aresL, afill, Value.oneCell', Nat.reduceLT, Nat.reduceLeDiff, Nat.reduceEqDiff, Nat.reduceAdd, Nat.reduceMul, Nat.reduceSub, Nat.reduceBEq, Int.reduceLE, Int.reduceLT, Int.reduceToNat, Int.reduceNeg, Int.reduceEq, axt, ftK, ft3, AAll, ftQ, tys]
      exact ⟨_, rfl, Sees.sc⟩
    · simp (maxSteps := 400000) (dsimp := false) only [h1, h2, axs, axw, aresL, afill, Value.oneCell', Nat.reduceLT, Nat.reduceLeDiff, Nat.reduceEqDiff, Nat.reduceAdd, Nat.reduceMul, Nat.reduceSub, Nat.reduceBEq, Int.reduceLE, Int.reduceLT, Int.reduceToNat, Int.reduceNeg, Int.reduceEq, axt, ftK, ft3, AAll, ftQ, tys]
      exact ⟨_, rfl, Sees.sc⟩
def kindOf (a : Deed) (there : Bool) : Int :=
  if a.kind.tmod 10 = 0 then 3 else if a.kind.tmod 10 = 1 then 4 else if a.kind.tmod 10 = 2 then 1 else if a.kind.tmod 10 = 3 then 2 else if there then 1 else 2
theorem kindOf_cases (a : Deed) (t : Bool) : kindOf a t = 1 ∨ kindOf a t = 2 ∨ kindOf a t = 3 ∨ kindOf a t = 4 := by
  unfold kindOf
  repeat' split
  all_goals omega
def sizeOf' (a : Deed) : Int := 1 + a.num.tmod 14
theorem sizeOf_le {a : Deed} (h : a.Fits) : 1 ≤ sizeOf' a ∧ sizeOf' a ≤ 14 := by
  unfold sizeOf'
  have h1 := Int.tmod_nonneg 14 h.n0
  have h2 := Int.tmod_lt_of_pos a.num (show (0 : Int) < 14 by omega)
  omega
theorem cutTo_len (l : List Int) (z : Int) (h : 0 ≤ z) : ((cutTo l z).length : Int) = min (l.length : Int) z := by unfold cutTo; rw [List.length_take]; omega
theorem cutTo_nodup {l : List Int} (z : Int) (h : l.Nodup) : (cutTo l z).Nodup := h.sublist (List.take_sublist _ _)
theorem without_nodup {l : List Int} (k : Int) (h : l.Nodup) : (without l k).Nodup := h.sublist List.filter_sublist
theorem front_nodup {l : List Int} (k : Int) (h : l.Nodup) : (k :: without l k).Nodup := by
  rw [List.nodup_cons]
  exact ⟨by simp [without], without_nodup k h⟩
theorem without_mem_len {l : List Int} {k : Int} (h : l.Nodup) (hk : k ∈ l) : (without l k).length = l.length - 1 := by
  rw [without_count (apart_iff.2 h), if_pos hk]
theorem cutTo_nat (l : List Int) (z : Int) : cutTo l z = l.take (z.toNat) := by unfold cutTo; congr 1; omega
theorem fallen_le (l : List Int) (z : Int) : (fallen l z).length ≤ l.length := by unfold fallen; simp
theorem cutTo_le (l : List Int) (z : Int) : (cutTo l z).length ≤ l.length := by unfold cutTo; simp; omega
end Go.Al
end
section
set_option linter.unusedVariables false
set_option linter.unusedSimpArgs false
namespace Go.Al
/-- What was there, what is, and what was evicted, of an act's kind. -/
structure EvOk (was is out : List Int) (kind : Int) (there : Bool) (key size : Int) : Prop where
  e1 : ∀ x ∈ out, x ∈ was ∧ x ∉ is
  e2 : ∀ x ∈ was, x ∈ out ∨ x ∈ is ∨ (kind = 3 ∧ x = key)
  ap : apart out = true
  len : (is.length : Int) = was.length - out.length + (if kind = 2 ∧ there = false then 1 else 0) - (if kind = 3 ∧ there = true then 1 else 0)
  sz : kind = 4 → (out.length : Int) = max ((was.length : Int) - size) 0
theorem cut_split (l : List Int) (z : Int) : cutTo l z ++ (fallen l z).reverse = l := by unfold cutTo fallen; simp
theorem cut_len (l : List Int) (z : Int) : (cutTo l z).length + (fallen l z).length = l.length := by
  have := congrArg List.length (cut_split l z)
  simpa using this
theorem cut_mem (l : List Int) (z x : Int) : x ∈ l ↔ x ∈ cutTo l z ∨ x ∈ fallen l z := by
  conv => lhs; rw [← cut_split l z]
  simp
theorem cut_apart {l : List Int} (z : Int) (h : l.Nodup) : (cutTo l z).Nodup ∧ (fallen l z).Nodup ∧ ∀ x ∈ fallen l z, x ∉ cutTo l z := by
  rw [← cut_split l z, List.nodup_append] at h
  refine ⟨h.1, (List.pairwise_reverse.1 h.2.1).imp fun h => Ne.symm h, fun x hx hc => h.2.2 x hc x (by simpa using hx) rfl⟩
theorem mem_without {l : List Int} {k x : Int} : x ∈ without l k ↔ x ∈ l ∧ x ≠ k := by simp [without]
theorem mem_front {l : List Int} {k x : Int} : x ∈ k :: without l k ↔ x = k ∨ x ∈ l := by
  rw [List.mem_cons, mem_without]
  by_cases h : x = k <;> simp [h]
theorem without_same {l : List Int} {k : Int} (h : k ∉ l) : without l k = l := by
  unfold without
  rw [List.filter_eq_self]
  intro x hx
  simp only [decide_eq_true_eq]
  rintro rfl
  exact h hx
theorem front_len {l : List Int} {k : Int} (h : l.Nodup) (hk : k ∈ l) : (k :: without l k).length = l.length := by
  have := without_mem_len h hk
  have : 0 < l.length := List.length_pos_iff.2 (List.ne_nil_of_mem hk)
  rw [List.length_cons]; omega
end Go.Al
end
section
set_option linter.unusedVariables false
set_option linter.unusedSimpArgs false
set_option maxRecDepth 20000
-- axs, axw, aresL, afill, Value.oneCell', Nat.reduceLT, Nat.reduceLeDiff, Nat.reduceEqDiff, Nat.reduceAdd, Nat.reduceMul, Nat.reduceSub, Nat.reduceBEq, Int.reduceLE, Int.reduceLT, Int.reduceToNat, Int.reduceNeg, Int.reduceEq, axt, ftK, ft3, AAll, ftQ, S2, tys: S2
namespace Go.Al
open Go.Proofs
/-- A capacity and a row of keys. -/
def S2 (C : Int) (L : List Int) : AV := .agg [.sc (.int .i64 C), .lst 1 (U L)]
theorem seedcd50 {p : Prop} (h : p := by repeat' (first | exact True.intro | exact Sees.sc | exact Sees.none | ((with_reducible refine Sees.same ?_) <;> simp [noIds, noIdsL, noIdsE, noIdsE_U, noIdsE_UU] <;> fail) | (refine Live.sees ?_ ?_ <;> first | assumption | (simp [noIdsE_U, noIdsE_UU] <;> fail)) | (refine Sees.obj ?_ ?_ ?_ <;> first | exact ⟨_, _, by assumption, rfl⟩ | (simp [U_len, UU_len] <;> fail) | (simp [noIdsE_U, noIdsE_UU] <;> fail) | (simp [U, UU, upd] <;> fail) | (simp [U, UU, upd, neS, *] <;> fail)) | (refine Sees.of_seen 3 ?_ <;> simp [seen, upd, noIdsE, noIdsL, noIds, U, UU, Nat.add_assoc] <;> fail) | refine Sees.agg ?_ | refine And.intro ?_ ?_ | simp only [SeesL])) : p := h
theorem seedcd51 {p : Prop} (h : p := by repeat' (first | exact True.intro | exact Sees.sc | exact Sees.none | ((with_reducible refine Sees.same ?_) <;> simp [noIds, noIdsL, noIdsE, noIdsE_U, noIdsE_UU] <;> fail) | (refine Live.sees ?_ ?_ <;> first | assumption | (simp [noIdsE_U, noIdsE_UU] <;> fail)) | (refine Sees.obj ?_ ?_ ?_ <;> first | exact ⟨_, _, by assumption, rfl⟩ | (simp [U_len, UU_len] <;> fail) | (simp [noIdsE_U, noIdsE_UU] <;> fail) | (simp [U, UU, upd, neS] <;> fail) | (simp [U, UU, upd, neS, *] <;> fail)) | refine Sees.agg ?_ | refine Sees.tup ?_ | refine And.intro ?_ ?_ | simp only [SeesL])) : p := h
theorem rLNew (c : Int) : PCalls Try.prog 26 [.sc (.int .i64 c)] (S2 (capOf c) []) := by
  refine PCalls.intro2 Try.func26 rfl rfl Try.ntmps26 Try.results26 (by simp) fun n => ?_; simp (maxSteps := 400000) (dsimp := false) only [axs, axw, aresL, afill, Value.oneCell', Nat.reduceLT, Nat.reduceLeDiff, Nat.reduceEqDiff, Nat.reduceAdd, Nat.reduceMul, Nat.reduceSub, Nat.reduceBEq, Int.reduceLE, Int.reduceLT, Int.reduceToNat, Int.reduceNeg, Int.reduceEq, axt, ftK, ft3, AAll, ftQ, S2, tys]
  refine ACallK.strict rfl (rCap c) (by simp only [SeesL, axs, axt, AS.ev, AS.put, upd, inHeap, Nat.reduceLT, Nat.reduceEqDiff, Nat.reduceAdd, Nat.reduceBEq, S2]; exact seedcd50) ?_; simp (maxSteps := 400000) (dsimp := false) only [axs, axw, aresL, afill, Value.oneCell', Nat.reduceLT, Nat.reduceLeDiff, Nat.reduceEqDiff, Nat.reduceAdd, Nat.reduceMul, Nat.reduceSub, Nat.reduceBEq, Int.reduceLE, Int.reduceLT, Int.reduceToNat, Int.reduceNeg, Int.reduceEq, axt, ftK, ft3, AAll, ftQ, S2, tys]
  refine ⟨_, rfl, ?_⟩; simp (maxSteps := 400000) (dsimp := false) only [SeesL, axs, axw, aresL, afill, Value.oneCell', Nat.reduceLT, Nat.reduceLeDiff, Nat.reduceEqDiff, Nat.reduceAdd, Nat.reduceMul, Nat.reduceSub, Nat.reduceBEq, Int.reduceLE, Int.reduceLT, Int.reduceToNat, Int.reduceNeg, Int.reduceEq, axt, ftK, ft3, AAll, ftQ, S2, tys] <;> exact seedcd51
theorem rLKeys (C : Int) (L : List Int) : PCalls Try.prog 49 [S2 C L] (.lst 1 (U L)) := by
  refine PCalls.intro2 Try.func49 rfl rfl Try.ntmps49 Try.results49 (by simp) fun n => ?_; simp (maxSteps := 400000) (dsimp := false) only [axs, axw, aresL, afill, Value.oneCell', Nat.reduceLT, Nat.reduceLeDiff, Nat.reduceEqDiff, Nat.reduceAdd, Nat.reduceMul, Nat.reduceSub, Nat.reduceBEq, Int.reduceLE, Int.reduceLT, Int.reduceToNat, Int.reduceNeg, Int.reduceEq, axt, ftK, ft3, AAll, ftQ, S2, tys]
  refine ⟨_, rfl, ?_⟩; simp (maxSteps := 400000) (dsimp := false) only [SeesL, axs, axw, aresL, afill, Value.oneCell', Nat.reduceLT, Nat.reduceLeDiff, Nat.reduceEqDiff, Nat.reduceAdd, Nat.reduceMul, Nat.reduceSub, Nat.reduceBEq, Int.reduceLE, Int.reduceLT, Int.reduceToNat, Int.reduceNeg, Int.reduceEq, axt, ftK, ft3, AAll, ftQ, S2, tys] <;> exact seedcd51
def lruTouch (L : List Int) (k : Int) : List Int := if k ∈ L then k :: without L k else L
theorem rLTouch (C : Int) (L : List Int) (k : Int) (hl : L.length ≤ 1000000) : PCalls Try.prog 54 [S2 C L, .sc (.int .u64 k)] (S2 C (lruTouch L k)) := by
  unfold lruTouch
  refine PCalls.intro2 Try.func54 rfl rfl Try.ntmps54 Try.results54 (by simp) fun n => ?_; simp (maxSteps := 400000) (dsimp := false) only [axs, axw, aresL, afill, Value.oneCell', Nat.reduceLT, Nat.reduceLeDiff, Nat.reduceEqDiff, Nat.reduceAdd, Nat.reduceMul, Nat.reduceSub, Nat.reduceBEq, Int.reduceLE, Int.reduceLT, Int.reduceToNat, Int.reduceNeg, Int.reduceEq, axt, ftK, ft3, AAll, ftQ, S2, tys]
  by_cases h : k ∈ L
  · refine ACallK.strict rfl (rHas L k (by omega)) (by simp only [SeesL, h, axs, axt, AS.ev, AS.put, upd, inHeap, Nat.reduceLT, Nat.reduceEqDiff, Nat.reduceAdd, Nat.reduceBEq, S2]; exact seedcd50) ?_; simp (maxSteps := 400000) (dsimp := false) only [h, axs, axw, aresL, afill, Value.oneCell', Nat.reduceLT, Nat.reduceLeDiff, Nat.reduceEqDiff, Nat.reduceAdd, Nat.reduceMul, Nat.reduceSub, Nat.reduceBEq, Int.reduceLE, Int.reduceLT, Int.reduceToNat, Int.reduceNeg, Int.reduceEq, axt, ftK, ft3, AAll, ftQ, S2, tys]
    refine ACallK.strict rfl (rFront L k (by omega)) (by simp only [SeesL, axs, axt, AS.ev, AS.put, upd, inHeap, Nat.reduceLT, Nat.reduceEqDiff, Nat.reduceAdd, Nat.reduceBEq, S2]; exact seedcd50) ?_; simp (maxSteps := 400000) (dsimp := false) only [axs, axw, aresL, afill, Value.oneCell', Nat.reduceLT, Nat.reduceLeDiff, Nat.reduceEqDiff, Nat.reduceAdd, Nat.reduceMul, Nat.reduceSub, Nat.reduceBEq, Int.reduceLE, Int.reduceLT, Int.reduceToNat, Int.reduceNeg, Int.reduceEq, axt, ftK, ft3, AAll, ftQ, S2, tys]
    refine ⟨_, rfl, ?_⟩; simp (maxSteps := 400000) (dsimp := false) only [SeesL, h, axs, axw, aresL, afill, Value.oneCell', Nat.reduceLT, Nat.reduceLeDiff, Nat.reduceEqDiff, Nat.reduceAdd, Nat.reduceMul, Nat.reduceSub, Nat.reduceBEq, Int.reduceLE, Int.reduceLT, Int.reduceToNat, Int.reduceNeg, Int.reduceEq, axt, ftK, ft3, AAll, ftQ, S2, tys] <;> exact seedcd51
  · refine ACallK.strict rfl (rHas L k (by omega)) (by simp only [SeesL, h, axs, axt, AS.ev, AS.put, upd, inHeap, Nat.reduceLT, Nat.reduceEqDiff, Nat.reduceAdd, Nat.reduceBEq, S2]; exact seedcd50) ?_; simp (maxSteps := 400000) (dsimp := false) only [h, axs, axw, aresL, afill, Value.oneCell', Nat.reduceLT, Nat.reduceLeDiff, Nat.reduceEqDiff, Nat.reduceAdd, Nat.reduceMul, Nat.reduceSub, Nat.reduceBEq, Int.reduceLE, Int.reduceLT, Int.reduceToNat, Int.reduceNeg, Int.reduceEq, axt, ftK, ft3, AAll, ftQ, S2, tys]
    refine ⟨_, rfl, ?_⟩; simp (maxSteps := 400000) (dsimp := false) only [SeesL, h, axs, axw, aresL, afill, Value.oneCell', Nat.reduceLT, Nat.reduceLeDiff, Nat.reduceEqDiff, Nat.reduceAdd, Nat.reduceMul, Nat.reduceSub, Nat.reduceBEq, Int.reduceLE, Int.reduceLT, Int.reduceToNat, Int.reduceNeg, Int.reduceEq, axt, ftK, ft3, AAll, ftQ, S2, tys] <;> exact seedcd51
def lruAdmit (C : Int) (L : List Int) (k : Int) : List Int := if k ∈ L then L else k :: without (cutTo L (C - 1)) k
def lruGone (C : Int) (L : List Int) (k : Int) : List Int := if k ∈ L then [] else fallen L (C - 1)
theorem rShrink (C : Int) (L : List Int) (z : Int) (hl : L.length ≤ 1000000) (z0 : 0 ≤ z) : PCalls Try.prog 89 [S2 C L, .sc (.int .i64 z)] (.tup [S2 C (cutTo L z), .lst 1 (U (fallen L z))]) := by
  refine PCalls.intro2 Try.func89 rfl rfl Try.ntmps89 Try.results89 (by simp) fun n => ?_; simp (maxSteps := 400000) (dsimp := false) only [axs, axw, aresL, afill, Value.oneCell', Nat.reduceLT, Nat.reduceLeDiff, Nat.reduceEqDiff, Nat.reduceAdd, Nat.reduceMul, Nat.reduceSub, Nat.reduceBEq, Int.reduceLE, Int.reduceLT, Int.reduceToNat, Int.reduceNeg, Int.reduceEq, axt, ftK, ft3, AAll, ftQ, S2, tys]
  refine ALoop.falls (fun k : Nat => k) (fun k s => k ≤ L.length ∧ s.t 1 = .sc (.int .i64 z) ∧ s.t 2 = .ptr n 2 0 0 ∧ s.t 4 = .ptr (n + 1) 2 0 0 ∧ s.H n = some (.obj 36 2 [[.sc (.int .i64 C), .lst 1 (U (L.take k))]] false) ∧ s.H (n + 1) = some (.obj 36 2 [[.sc (.int .i64 0), .sc (.slice none 0 0)]] false) ∧ Live 54 1 s.H (U (L.drop k).reverse) (s.t 6) ∧ (k < L.length → z ≤ k)) L.length ⟨Nat.le_refl _, rfl, rfl, rfl, by rw [List.take_length]; simp [upd], by simp [upd], by simp; exact Live.nil, by omega⟩ ?_
  rintro k s hb ⟨hk, h1, h2, h4, hn, hn1, hv, hz⟩
  have hlen : (L.take k).length = k := by simp; omega
  have hnn := hb _ _ hn1
  by_cases hc : z < k
  · obtain ⟨x, hx, hs, hw, g0, g1, g2⟩ := lastIdx (l := L.take k) (by intro e; rw [e] at hlen; simp at hlen; omega) (by omega)
    have hx' := hx
    have hc1 : (k : Int) > z := by omega
    rw [hlen] at hx hs hw g0 g1 g2
    have hd : L.drop (k - 1) = x :: L.drop k := by
      have : L[k - 1]? = some x := by rw [List.getElem?_take] at hx; simpa [show k - 1 < k by omega] using hx
      obtain ⟨h1, h2⟩ := List.getElem?_eq_some_iff.1 this
      rw [List.drop_eq_getElem_cons h1, h2, Nat.sub_add_cancel (by omega)]
    have ht : (L.take k).take (k - 1) = L.take (k - 1) := by rw [List.take_take, Nat.min_eq_left (by omega)]
    have hr : U (L.drop (k - 1)).reverse = U (L.drop k).reverse ++ [[.sc (.int .u64 x)]] := by rw [hd]; simp [U]
    have hql : (U (L.drop k).reverse).length ≤ 1000000 := by simp [U_len]; omega
    have hne1 : ¬ n = s.n := by omega
    have hne2 : ¬ n + 1 = s.n := by omega
    have hne3 : ¬ n = s.n + 1 := by omega
    have hne4 : ¬ n + 1 = s.n + 1 := by omega
    have hne5 : ¬ s.n + 1 = n := by omega
    generalize U (L.drop k).reverse = q at *
    rcases hv.cases hb with ⟨h7, h8⟩ | ⟨id, hlt2, hne, h7, h8⟩
    · subst h7
      simp (maxSteps := 400000) (dsimp := false) only [h1, h2, h4, hn, U_len, hlen, hc1, axs, axw, aresL, afill, Value.oneCell', Nat.reduceLT, Nat.reduceLeDiff, Nat.reduceEqDiff, Nat.reduceAdd, Nat.reduceMul, Nat.reduceSub, Nat.reduceBEq, Int.reduceLE, Int.reduceLT, Int.reduceToNat, Int.reduceNeg, Int.reduceEq, axt, ftK, ft3, AAll, ftQ, S2, tys]
      refine ACallK.strict rfl (rBack (L.take k) x (by omega) hx') (by simp only [SeesL, h1, h2, h4, h8, hn, hne1, hne2, hne3, hne4, U_len, hlen, hw, g0, g2, U_take, ht, axs, axt, AS.ev, AS.put, upd, inHeap, Nat.reduceLT, Nat.reduceEqDiff, Nat.reduceAdd, Nat.reduceBEq, S2]; exact seedcd50) ?_; simp (maxSteps := 400000) (dsimp := false) only [h1, h2, h4, h8, hn, hne1, hne2, hne3, hne4, U_len, hlen, hw, g0, g2, U_take, ht, axs, axw, aresL, afill, Value.oneCell', Nat.reduceLT, Nat.reduceLeDiff, Nat.reduceEqDiff, Nat.reduceAdd, Nat.reduceMul, Nat.reduceSub, Nat.reduceBEq, Int.reduceLE, Int.reduceLT, Int.reduceToNat, Int.reduceNeg, Int.reduceEq, axt, ftK, ft3, AAll, ftQ, S2, tys]
      exact ⟨k - 1, by omega, by omega, rfl, by simp [upd, hn1], by rw [hr]; exact Live.mk (by simp [upd, hne5]) rfl, by omega⟩
    · have b1 : (q.length + 1) * 8 ≤ 140737488355328 := by omega
      have b2 : q.length + 1 ≤ 1099511627776 := by omega
      have hid1 : ¬ id = n := by rintro rfl; rw [hn] at h8; simp at h8
      have hid2 : ¬ id = n + 1 := by rintro rfl; rw [hn1] at h8; simp at h8
      have hid3 : ¬ n = id := fun h => hid1 h.symm
      have hid4 : ¬ n + 1 = id := fun h => hid2 h.symm
      simp (maxSteps := 400000) (dsimp := false) only [h1, h2, h4, hn, U_len, hlen, hc1, axs, axw, aresL, afill, Value.oneCell', Nat.reduceLT, Nat.reduceLeDiff, Nat.reduceEqDiff, Nat.reduceAdd, Nat.reduceMul, Nat.reduceSub, Nat.reduceBEq, Int.reduceLE, Int.reduceLT, Int.reduceToNat, Int.reduceNeg, Int.reduceEq, axt, ftK, ft3, AAll, ftQ, S2, tys]
      refine ACallK.strict rfl (rBack (L.take k) x (by omega) hx') (by simp only [SeesL, h1, h2, h4, h7, h8, hn, hne, hid1, hid2, hid3, hid4, hne1, hne2, hne3, hne4, b1, b2, U_len, hlen, hw, g0, g2, U_take, ht, axs, axt, AS.ev, AS.put, upd, inHeap, Nat.reduceLT, Nat.reduceEqDiff, Nat.reduceAdd, Nat.reduceBEq, S2]; exact seedcd50) ?_; simp (maxSteps := 400000) (dsimp := false) only [h1, h2, h4, h7, h8, hn, hne, hid1, hid2, hid3, hid4, hne1, hne2, hne3, hne4, b1, b2, U_len, hlen, hw, g0, g2, U_take, ht, axs, axw, aresL, afill, Value.oneCell', Nat.reduceLT, Nat.reduceLeDiff, Nat.reduceEqDiff, Nat.reduceAdd, Nat.reduceMul, Nat.reduceSub, Nat.reduceBEq, Int.reduceLE, Int.reduceLT, Int.reduceToNat, Int.reduceNeg, Int.reduceEq, axt, ftK, ft3, AAll, ftQ, S2, tys]
      exact ⟨k - 1, by omega, by omega, rfl, by simp [upd, hn1, hid4, hne4, hne2], by rw [hr]; exact Live.mk (by simp [upd, hne5]) (by simp), by omega⟩
  · have e : (max z 0).toNat = k ∨ (k = L.length ∧ L.length ≤ (max z 0).toNat) := by omega
    have hf : fallen L z = (L.drop k).reverse ∧ cutTo L z = L.take k := by
      unfold fallen cutTo
      rcases e with e | ⟨e1, e2⟩
      · rw [e]; exact ⟨rfl, rfl⟩
      · rw [e1, List.take_length, List.take_of_length_le e2, List.drop_length, List.drop_of_length_le e2]; exact ⟨rfl, rfl⟩
    rw [hf.1, hf.2]
    have hc1 : ¬ (k : Int) > z := by omega
    have hv' := hv
    simp (maxSteps := 400000) (dsimp := false) only [h1, h2, h4, hn, hn1, U_len, hlen, hc1, axs, axw, aresL, afill, Value.oneCell', Nat.reduceLT, Nat.reduceLeDiff, Nat.reduceEqDiff, Nat.reduceAdd, Nat.reduceMul, Nat.reduceSub, Nat.reduceBEq, Int.reduceLE, Int.reduceLT, Int.reduceToNat, Int.reduceNeg, Int.reduceEq, axt, ftK, ft3, AAll, ftQ, S2, tys]
    refine ⟨_, rfl, Sees.tup ?_⟩
    simp only [SeesL]
    refine ⟨Sees.same (by simp [noIds, noIdsL, noIdsE_U]), ?_, trivial⟩
    rcases hv with ⟨h7, h8⟩ | ⟨id, h7, h8⟩
    · rw [h8, h7]; exact Sees.none
    · have hid2 : ¬ id = n + 1 := by rintro rfl; rw [hn1] at h8; simp at h8
      rw [h7]
      exact Sees.obj ⟨_, _, (upd_ne _ _ hid2).trans h8, rfl⟩ rfl (noIdsE_U _)
end Go.Al
end
section
set_option linter.unusedVariables false
set_option linter.unusedSimpArgs false
set_option maxRecDepth 20000
-- axs, axw, aresL, afill, Value.oneCell', Nat.reduceLT, Nat.reduceLeDiff, Nat.reduceEqDiff, Nat.reduceAdd, Nat.reduceMul, Nat.reduceSub, Nat.reduceBEq, Int.reduceLE, Int.reduceLT, Int.reduceToNat, Int.reduceNeg, Int.reduceEq, axt, ftK, ft3, AAll, ftQ, S2, tys: S2
namespace Go.Al
open Go.Proofs
theorem see91d00 {p : Prop} (h : p := by repeat' (first | exact True.intro | exact Sees.sc | exact Sees.none | ((with_reducible refine Sees.same ?_) <;> simp [noIds, noIdsL, noIdsE, noIdsE_U, noIdsE_UU] <;> fail) | (refine Live.sees ?_ ?_ <;> first | assumption | (simp [noIdsE_U, noIdsE_UU] <;> fail)) | (refine Sees.obj ?_ ?_ ?_ <;> first | exact ⟨_, _, by assumption, rfl⟩ | (simp [U_len, UU_len] <;> fail) | (simp [noIdsE_U, noIdsE_UU] <;> fail) | (simp [U, UU, upd] <;> fail) | (simp [U, UU, upd, neS, *] <;> fail)) | (refine Sees.of_seen 3 ?_ <;> simp [seen, upd, noIdsE, noIdsL, noIds, U, UU, Nat.add_assoc] <;> fail) | refine Sees.agg ?_ | refine And.intro ?_ ?_ | simp only [SeesL])) : p := h
theorem see91d01 {p : Prop} (h : p := by repeat' (first | exact True.intro | exact Sees.sc | exact Sees.none | ((with_reducible refine Sees.same ?_) <;> simp [noIds, noIdsL, noIdsE, noIdsE_U, noIdsE_UU] <;> fail) | (refine Live.sees ?_ ?_ <;> first | assumption | (simp [noIdsE_U, noIdsE_UU] <;> fail)) | (refine Sees.obj ?_ ?_ ?_ <;> first | exact ⟨_, _, by assumption, rfl⟩ | (simp [U_len, UU_len] <;> fail) | (simp [noIdsE_U, noIdsE_UU] <;> fail) | (simp [U, UU, upd, neS] <;> fail) | (simp [U, UU, upd, neS, *] <;> fail)) | refine Sees.agg ?_ | refine Sees.tup ?_ | refine And.intro ?_ ?_ | simp only [SeesL])) : p := h
theorem rLAdmit (C : Int) (L : List Int) (k : Int) (hl : L.length ≤ 1000000) (c0 : 1 ≤ C) (c1 : C ≤ 1048576) : PCalls Try.prog 82 [S2 C L, .sc (.int .u64 k)] (.tup [S2 C (lruAdmit C L k), .lst 1 (U (lruGone C L k))]) := by
  unfold lruAdmit lruGone
  have w : IntKind.i64.wrap (C - 1) = C - 1 := wrap_in (by omega) (by omega)
  have hc := cutTo_le L (C - 1)
  refine PCalls.intro2 Try.func82 rfl rfl Try.ntmps82 Try.results82 (by simp) fun n => ?_; simp (maxSteps := 400000) (dsimp := false) only [axs, axw, aresL, afill, Value.oneCell', Nat.reduceLT, Nat.reduceLeDiff, Nat.reduceEqDiff, Nat.reduceAdd, Nat.reduceMul, Nat.reduceSub, Nat.reduceBEq, Int.reduceLE, Int.reduceLT, Int.reduceToNat, Int.reduceNeg, Int.reduceEq, axt, ftK, ft3, AAll, ftQ, S2, tys]
  by_cases h : k ∈ L
  · refine ACallK.strict rfl (rHas L k (by omega)) (by simp only [SeesL, h, axs, axt, AS.ev, AS.put, upd, inHeap, Nat.reduceLT, Nat.reduceEqDiff, Nat.reduceAdd, Nat.reduceBEq, S2]; exact see91d00) ?_; simp (maxSteps := 400000) (dsimp := false) only [h, axs, axw, aresL, afill, Value.oneCell', Nat.reduceLT, Nat.reduceLeDiff, Nat.reduceEqDiff, Nat.reduceAdd, Nat.reduceMul, Nat.reduceSub, Nat.reduceBEq, Int.reduceLE, Int.reduceLT, Int.reduceToNat, Int.reduceNeg, Int.reduceEq, axt, ftK, ft3, AAll, ftQ, S2, tys]
    refine ⟨_, rfl, ?_⟩; simp (maxSteps := 400000) (dsimp := false) only [SeesL, h, axs, axw, aresL, afill, Value.oneCell', Nat.reduceLT, Nat.reduceLeDiff, Nat.reduceEqDiff, Nat.reduceAdd, Nat.reduceMul, Nat.reduceSub, Nat.reduceBEq, Int.reduceLE, Int.reduceLT, Int.reduceToNat, Int.reduceNeg, Int.reduceEq, axt, ftK, ft3, AAll, ftQ, S2, tys] <;> exact see91d01
  · refine ACallK.strict rfl (rHas L k (by omega)) (by simp only [SeesL, h, w, axs, axt, AS.ev, AS.put, upd, inHeap, Nat.reduceLT, Nat.reduceEqDiff, Nat.reduceAdd, Nat.reduceBEq, S2]; exact see91d00) ?_; simp (maxSteps := 400000) (dsimp := false) only [h, w, axs, axw, aresL, afill, Value.oneCell', Nat.reduceLT, Nat.reduceLeDiff, Nat.reduceEqDiff, Nat.reduceAdd, Nat.reduceMul, Nat.reduceSub, Nat.reduceBEq, Int.reduceLE, Int.reduceLT, Int.reduceToNat, Int.reduceNeg, Int.reduceEq, axt, ftK, ft3, AAll, ftQ, S2, tys]
    refine ACallK.strict rfl (rShrink C L (C - 1) hl (by omega)) (by simp only [SeesL, axs, axt, AS.ev, AS.put, upd, inHeap, Nat.reduceLT, Nat.reduceEqDiff, Nat.reduceAdd, Nat.reduceBEq, S2]; exact see91d00) ?_; simp (maxSteps := 400000) (dsimp := false) only [axs, axw, aresL, afill, Value.oneCell', Nat.reduceLT, Nat.reduceLeDiff, Nat.reduceEqDiff, Nat.reduceAdd, Nat.reduceMul, Nat.reduceSub, Nat.reduceBEq, Int.reduceLE, Int.reduceLT, Int.reduceToNat, Int.reduceNeg, Int.reduceEq, axt, ftK, ft3, AAll, ftQ, S2, tys]
    refine ACallK.strict rfl (rFront (cutTo L (C - 1)) k (by omega)) (by simp only [SeesL, axs, axt, AS.ev, AS.put, upd, inHeap, Nat.reduceLT, Nat.reduceEqDiff, Nat.reduceAdd, Nat.reduceBEq, S2]; exact see91d00) ?_; simp (maxSteps := 400000) (dsimp := false) only [axs, axw, aresL, afill, Value.oneCell', Nat.reduceLT, Nat.reduceLeDiff, Nat.reduceEqDiff, Nat.reduceAdd, Nat.reduceMul, Nat.reduceSub, Nat.reduceBEq, Int.reduceLE, Int.reduceLT, Int.reduceToNat, Int.reduceNeg, Int.reduceEq, axt, ftK, ft3, AAll, ftQ, S2, tys]
    refine ⟨_, rfl, ?_⟩; simp (maxSteps := 400000) (dsimp := false) only [SeesL, h, axs, axw, aresL, afill, Value.oneCell', Nat.reduceLT, Nat.reduceLeDiff, Nat.reduceEqDiff, Nat.reduceAdd, Nat.reduceMul, Nat.reduceSub, Nat.reduceBEq, Int.reduceLE, Int.reduceLT, Int.reduceToNat, Int.reduceNeg, Int.reduceEq, axt, ftK, ft3, AAll, ftQ, S2, tys] <;> exact see91d01
theorem rLDrop (C : Int) (L : List Int) (k : Int) (hl : L.length ≤ 1000000) : PCalls Try.prog 60 [S2 C L, .sc (.int .u64 k)] (S2 C (without L k)) := by
  refine PCalls.intro2 Try.func60 rfl rfl Try.ntmps60 Try.results60 (by simp) fun n => ?_; simp (maxSteps := 400000) (dsimp := false) only [axs, axw, aresL, afill, Value.oneCell', Nat.reduceLT, Nat.reduceLeDiff, Nat.reduceEqDiff, Nat.reduceAdd, Nat.reduceMul, Nat.reduceSub, Nat.reduceBEq, Int.reduceLE, Int.reduceLT, Int.reduceToNat, Int.reduceNeg, Int.reduceEq, axt, ftK, ft3, AAll, ftQ, S2, tys]
  refine ACallK.strict rfl (rWithout L k (by omega)) (by simp only [SeesL, axs, axt, AS.ev, AS.put, upd, inHeap, Nat.reduceLT, Nat.reduceEqDiff, Nat.reduceAdd, Nat.reduceBEq, S2]; exact see91d00) ?_; simp (maxSteps := 400000) (dsimp := false) only [axs, axw, aresL, afill, Value.oneCell', Nat.reduceLT, Nat.reduceLeDiff, Nat.reduceEqDiff, Nat.reduceAdd, Nat.reduceMul, Nat.reduceSub, Nat.reduceBEq, Int.reduceLE, Int.reduceLT, Int.reduceToNat, Int.reduceNeg, Int.reduceEq, axt, ftK, ft3, AAll, ftQ, S2, tys]
  refine ⟨_, rfl, ?_⟩; simp (maxSteps := 400000) (dsimp := false) only [SeesL, axs, axw, aresL, afill, Value.oneCell', Nat.reduceLT, Nat.reduceLeDiff, Nat.reduceEqDiff, Nat.reduceAdd, Nat.reduceMul, Nat.reduceSub, Nat.reduceBEq, Int.reduceLE, Int.reduceLT, Int.reduceToNat, Int.reduceNeg, Int.reduceEq, axt, ftK, ft3, AAll, ftQ, S2, tys] <;> exact see91d01
theorem rLResize (C : Int) (L : List Int) (c : Int) (hl : L.length ≤ 1000000) : PCalls Try.prog 65 [S2 C L, .sc (.int .i64 c)] (.tup [S2 (capOf c) (cutTo L (capOf c)), .lst 1 (U (fallen L (capOf c)))]) := by
  have hcap := capOf_le c
  refine PCalls.intro2 Try.func65 rfl rfl Try.ntmps65 Try.results65 (by simp) fun n => ?_; simp (maxSteps := 400000) (dsimp := false) only [axs, axw, aresL, afill, Value.oneCell', Nat.reduceLT, Nat.reduceLeDiff, Nat.reduceEqDiff, Nat.reduceAdd, Nat.reduceMul, Nat.reduceSub, Nat.reduceBEq, Int.reduceLE, Int.reduceLT, Int.reduceToNat, Int.reduceNeg, Int.reduceEq, axt, ftK, ft3, AAll, ftQ, S2, tys]
  refine ACallK.strict rfl (rCap c) (by simp only [SeesL, axs, axt, AS.ev, AS.put, upd, inHeap, Nat.reduceLT, Nat.reduceEqDiff, Nat.reduceAdd, Nat.reduceBEq, S2]; exact see91d00) ?_; simp (maxSteps := 400000) (dsimp := false) only [axs, axw, aresL, afill, Value.oneCell', Nat.reduceLT, Nat.reduceLeDiff, Nat.reduceEqDiff, Nat.reduceAdd, Nat.reduceMul, Nat.reduceSub, Nat.reduceBEq, Int.reduceLE, Int.reduceLT, Int.reduceToNat, Int.reduceNeg, Int.reduceEq, axt, ftK, ft3, AAll, ftQ, S2, tys]
  refine ACallK.strict rfl (rShrink (capOf c) L (capOf c) hl (by omega)) (by simp only [SeesL, axs, axt, AS.ev, AS.put, upd, inHeap, Nat.reduceLT, Nat.reduceEqDiff, Nat.reduceAdd, Nat.reduceBEq, S2]; exact see91d00) ?_; simp (maxSteps := 400000) (dsimp := false) only [axs, axw, aresL, afill, Value.oneCell', Nat.reduceLT, Nat.reduceLeDiff, Nat.reduceEqDiff, Nat.reduceAdd, Nat.reduceMul, Nat.reduceSub, Nat.reduceBEq, Int.reduceLE, Int.reduceLT, Int.reduceToNat, Int.reduceNeg, Int.reduceEq, axt, ftK, ft3, AAll, ftQ, S2, tys]
  refine ⟨_, rfl, ?_⟩; simp (maxSteps := 400000) (dsimp := false) only [SeesL, axs, axw, aresL, afill, Value.oneCell', Nat.reduceLT, Nat.reduceLeDiff, Nat.reduceEqDiff, Nat.reduceAdd, Nat.reduceMul, Nat.reduceSub, Nat.reduceBEq, Int.reduceLE, Int.reduceLT, Int.reduceToNat, Int.reduceNeg, Int.reduceEq, axt, ftK, ft3, AAll, ftQ, S2, tys] <;> exact see91d01
/-- An act's capacity, keys, and those that were evicted. -/
def lruDo (C : Int) (L : List Int) (a : Deed) : Int × List Int × List Int :=
  if kindOf a (decide (a.key ∈ L)) = 1 then (C, lruTouch L a.key, [])
  else if kindOf a (decide (a.key ∈ L)) = 2 then (C, lruAdmit C L a.key, lruGone C L a.key)
  else if kindOf a (decide (a.key ∈ L)) = 3 then (C, without L a.key, [])
  else (capOf (sizeOf' a), cutTo L (capOf (sizeOf' a)), fallen L (capOf (sizeOf' a)))
/-- States that come up: their capacity fits, and they have no more keys, no one twice. -/
structure LruOk (C : Int) (L : List Int) : Prop where
  c0 : 1 ≤ C
  c1 : C ≤ 14
  len : (L.length : Int) ≤ C
  nodup : L.Nodup
theorem LruOk.act {C : Int} {L : List Int} (h : LruOk C L) {a : Deed} (ha : a.Fits) : LruOk (lruDo C L a).1 (lruDo C L a).2.1 := by
  have hs := sizeOf_le ha
  have hcs : capOf (sizeOf' a) = sizeOf' a := capOf_same (by omega) (by omega)
  have c0 := h.c0
  have c1 := h.c1
  have hl := h.len
  unfold lruDo
  rcases kindOf_cases a (decide (a.key ∈ L)) with e | e | e | e
  · rw [if_pos e]
    refine ⟨c0, c1, ?_, ?_⟩ <;> show _ <;> dsimp only <;> unfold lruTouch <;> split
    · rename_i hk
      have := without_mem_len h.nodup hk
      have : 0 < L.length := List.length_pos_iff.2 (List.ne_nil_of_mem hk)
      rw [List.length_cons]; omega
    · exact hl
    · exact front_nodup _ h.nodup
    · exact h.nodup
  · rw [if_neg (by omega), if_pos e]
    refine ⟨c0, c1, ?_, ?_⟩ <;> show _ <;> dsimp only <;> unfold lruAdmit <;> split
    · exact hl
    · have h1 := without_len (cutTo L (C - 1)) a.key
      have h2 := cutTo_len L (C - 1) (by omega)
      rw [List.length_cons]; omega
    · exact h.nodup
    · exact front_nodup _ (cutTo_nodup _ h.nodup)
  · rw [if_neg (by omega), if_neg (by omega), if_pos e]
    refine ⟨c0, c1, ?_, without_nodup _ h.nodup⟩
    have h1 := without_len L a.key
    show ((without L a.key).length : Int) ≤ C
    omega
  · rw [if_neg (by omega), if_neg (by omega), if_neg (by omega), hcs]
    refine ⟨hs.1, hs.2, ?_, cutTo_nodup _ h.nodup⟩
    have h2 := cutTo_len L (sizeOf' a) (by omega)
    show ((cutTo L (sizeOf' a)).length : Int) ≤ sizeOf' a
    omega
end Go.Al
end
