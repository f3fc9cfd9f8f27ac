/- Stacks of items, plainly: places, kinds, what stays. Conditions: none. Items in rows: places, copies, by the library. Conditions: the rows are short. Items in rows: what the library's deletion comes to. Conditions: the rows are short. Items in rows: an insertion at the front, by the library. Conditions: the rows are short. Low inter-reference recency: a copy of the stack, changed. Conditions: the rows are short. Low inter-reference recency: the program's small functions. Conditions: the rows are short. Low inter-reference recency: the program's stack and queue, changed. Conditions: the rows are short. Low inter-reference recency, plainly: to cool, to forget, to shrink. Conditions: none. Low inter-reference recency: the program cools, forgets, shrinks. Conditions: the rows are short. Low inter-reference recency: the program evicts, as long as there are too many. Conditions: the rows are short. Low inter-reference recency: the program's keys; a new one. Conditions: the rows are short. Low inter-reference recency, plainly: the acts; how long the rows are. Conditions: none. -/
import Derived.Test.YtkoimgeckkodhaaRqB
section
set_option linter.unusedVariables false
set_option linter.unusedSimpArgs false
namespace Go.Al.K12
def idxT (t : Int × Int → Bool) (l : List (Int × Int)) : Int := match l.findIdx? t with | some i => i | none => -1
section
variable {t : Int × Int → Bool} {l : List (Int × Int)}
theorem idxT_hit {p : Nat} {x : Int × Int} (h : l[p]? = some x) (hx : t x = true) (hq : ∀ (q : Nat) (y : Int × Int), q < p → l[q]? = some y → t y = false) : idxT t l = p := by
  obtain ⟨hp, e⟩ := List.getElem?_eq_some_iff.1 h
  have : l.findIdx? t = some p := by
    rw [List.findIdx?_eq_some_iff_getElem]
    refine ⟨hp, by rw [e]; exact hx, fun j hj => ?_⟩
    have := hq j _ hj (List.getElem?_eq_getElem (by omega))
    simp [this]
  simp [idxT, this]
theorem idxT_miss (hq : ∀ (q : Nat) (y : Int × Int), q < l.length → l[q]? = some y → t y = false) : idxT t l = -1 := by
  have : l.findIdx? t = none := by
    rw [List.findIdx?_eq_none_iff]
    intro x hx
    obtain ⟨q, h1, h2⟩ := List.mem_iff_getElem.1 hx
    exact hq q x h1 (by rw [List.getElem?_eq_getElem h1, h2])
  simp [idxT, this]
theorem idxT_cases (t : Int × Int → Bool) (l : List (Int × Int)) : (idxT t l = -1 ∧ ∀ y ∈ l, t y = false) ∨ ∃ (p : Nat) (x : Int × Int), idxT t l = p ∧ l[p]? = some x ∧ t x = true ∧ ∀ (q : Nat) (y : Int × Int), q < p → l[q]? = some y → t y = false := by
  unfold idxT
  cases e : l.findIdx? t with
  | none =>
    rw [List.findIdx?_eq_none_iff] at e
    exact .inl ⟨rfl, e⟩
  | some p =>
    rw [List.findIdx?_eq_some_iff_getElem] at e
    obtain ⟨hp, h1, h2⟩ := e
    refine .inr ⟨p, l[p], rfl, List.getElem?_eq_getElem hp, h1, fun q y hq hy => ?_⟩
    obtain ⟨hq2, e2⟩ := List.getElem?_eq_some_iff.1 hy
    have := h2 q hq
    rw [e2] at this
    simpa using this
end
/-- A key's place. -/
def idxK (l : List (Int × Int)) (k : Int) : Int := idxT (fun x => decide (x.1 = k)) l
/-- How many items are of a kind. -/
def many (k : Int) (S : List (Int × Int)) : Nat := (S.filter fun x => decide (x.2 = k)).length
/-- The last place of a kind, and one more; 0: there is none. -/
def upTo (k : Int) : List (Int × Int) → Nat
  | [] => 0
  | x :: S => if 0 < upTo k S then upTo k S + 1 else if x.2 = k then 1 else 0
section
variable {k j : Int} {S A B : List (Int × Int)}
theorem many_le (k : Int) (S : List (Int × Int)) : many k S ≤ S.length := List.length_filter_le _ _
theorem many_append (k : Int) (A B : List (Int × Int)) : many k (A ++ B) = many k A + many k B := by unfold many; rw [List.filter_append, List.length_append]
theorem many_cons (k : Int) (x : Int × Int) (S : List (Int × Int)) : many k (x :: S) = (if x.2 = k then 1 else 0) + many k S := by
  unfold many
  rw [List.filter_cons]
  by_cases h : x.2 = k
  · rw [if_pos (by simpa using h), if_pos h, List.length_cons]; omega
  · rw [if_neg (by simpa using h), if_neg h]; omega
theorem many_zero : many k S = 0 ↔ ∀ x ∈ S, x.2 ≠ k := by
  unfold many
  rw [List.length_eq_zero_iff, List.filter_eq_nil_iff]
  exact ⟨fun h x hx => by simpa using h x hx, fun h x hx => by simpa using h x hx⟩
theorem upTo_le : ∀ (S : List (Int × Int)), upTo k S ≤ S.length
  | [] => Nat.le_refl _
  | x :: S => by
    have := upTo_le S
    unfold upTo
    rw [List.length_cons]
    split
    · omega
    · split <;> omega
/-- Where the last item of a kind is. -/
theorem upTo_spec : ∀ (S : List (Int × Int)), (upTo k S = 0 ∧ ∀ x ∈ S, x.2 ≠ k) ∨ ∃ A x B, S = A ++ x :: B ∧ upTo k S = A.length + 1 ∧ x.2 = k ∧ ∀ y ∈ B, y.2 ≠ k
  | [] => .inl ⟨rfl, fun x hx => (nomatch hx)⟩
  | x :: S => by
    rcases upTo_spec S with ⟨h1, h2⟩ | ⟨A, y, B, h1, h2, h3, h4⟩
    · by_cases hx : x.2 = k
      · refine .inr ⟨[], x, S, rfl, ?_, hx, h2⟩
        unfold upTo
        rw [h1, if_neg (by omega), if_pos hx]; rfl
      · refine .inl ⟨?_, fun y hy => ?_⟩
        · unfold upTo
          rw [h1, if_neg (by omega), if_neg hx]
        · rcases List.mem_cons.1 hy with rfl | h
          · exact hx
          · exact h2 y h
    · refine .inr ⟨x :: A, y, B, by rw [h1]; rfl, ?_, h3, h4⟩
      unfold upTo
      rw [h2, if_pos (by omega)]; rfl
theorem upTo_at {x : Int × Int} (hx : x.2 = k) (hB : ∀ y ∈ B, y.2 ≠ k) : upTo k (A ++ x :: B) = A.length + 1 := by
  have h0 : ∀ (B : List (Int × Int)), (∀ y ∈ B, y.2 ≠ k) → upTo k B = 0 := by
    intro B
    induction B with
    | nil => intro _; rfl
    | cons y B ih =>
      intro h
      unfold upTo
      rw [ih fun z hz => h z (List.mem_cons_of_mem _ hz), if_neg (by omega), if_neg (h y List.mem_cons_self)]
  induction A with
  | nil =>
    show upTo k (x :: B) = _
    unfold upTo
    rw [h0 B hB, if_neg (by omega), if_pos hx]; rfl
  | cons y A ih =>
    show upTo k (y :: (A ++ x :: B)) = _
    unfold upTo
    rw [ih, if_pos (by omega)]; rfl
theorem upTo_none (h : ∀ y ∈ S, y.2 ≠ k) : upTo k S = 0 := by
  rcases upTo_spec (k := k) S with ⟨h1, _⟩ | ⟨A, x, B, h1, _, h3, _⟩
  · exact h1
  · exact absurd h3 (h x (by rw [h1]; simp))
end
end Go.Al.K12
end
section
set_option linter.unusedVariables false
set_option linter.unusedSimpArgs false
set_option maxRecDepth 20000
set_option maxHeartbeats 3200000
-- NOIDS: noIdsE_IT
-- LENS: IT_len
namespace Go.Al.K12
open Go.Proofs
def IT (l : List (Int × Int)) : List (List AV) := l.map fun p => [.sc (.int .u64 p.1), .sc (.int .i64 p.2)]
theorem IT_len (l : List (Int × Int)) : (IT l).length = l.length := by simp [IT]
theorem IT_get {l : List (Int × Int)} {p : Nat} {x : Int × Int} (h : l[p]? = some x) : (IT l)[p]? = some [.sc (.int .u64 x.1), .sc (.int .i64 x.2)] := by simp [IT, h]
theorem IT_take (l : List (Int × Int)) (k : Nat) : (IT l).take k = IT (l.take k) := by simp [IT]
theorem IT_drop (l : List (Int × Int)) (k : Nat) : (IT l).drop k = IT (l.drop k) := by simp [IT]
theorem IT_append (a b : List (Int × Int)) : IT (a ++ b) = IT a ++ IT b := by simp [IT]
theorem IT_set (l : List (Int × Int)) (p : Nat) (a b : Int) : (IT l).set p [.sc (.int .u64 a), .sc (.int .i64 b)] = IT (l.set p (a, b)) := by simp [IT, List.map_set]
theorem noIdsE_IT (l : List (Int × Int)) : noIdsE (IT l) = true := noIdsE_map _ (fun x => by simp [noIdsL, noIds]) l
theorem IT_nil {l : List (Int × Int)} (h : IT l = []) : l = [] := by simpa [IT] using h
/-- A test of pairs, as a function: it changes nothing. -/
def TestF (g : Nat) (caps : List AV) (t : Int × Int → Bool) (H : AH) (b : Nat) : Prop := ∀ (n : Nat) (x : Int × Int), b ≤ n → HCalls Try.prog g (.agg [.sc (.int .u64 x.1), .sc (.int .i64 x.2)] :: caps) H n fun v H' n' => v = .sc (.bool (t x)) ∧ H' = H ∧ n' = n
/-- The test of at: is it the key? -/
theorem Keeps.put {H H2 : AH} {n n2 j : Nat} {x : Option AO} (k : Keeps H n H2 n2) (h : n ≤ j) : Keeps H n (Al.upd H2 j x) n2 := ⟨k.1, fun i hi => by rw [upd_ne _ _ (by omega), k.2 i hi]⟩
end Go.Al.K12
end
section
set_option linter.unusedVariables false
set_option linter.unusedSimpArgs false
set_option maxRecDepth 20000
set_option maxHeartbeats 3200000
-- NOIDS: noIdsE_IT
-- LENS: IT_len
namespace Go.Al.K12
open Go.Proofs
theorem eraseIdx_len {l : List (Int × Int)} {i : Nat} (h : i < l.length) : (l.eraseIdx i).length = l.length - 1 := by rw [List.length_eraseIdx, if_pos h]
theorem over_mid (l : List (Int × Int)) {i : Nat} (h : i < l.length) (R : List (List AV)) : over (over (IT l) i (((IT l).drop (i + 1)).take (l.length - (i + 1)))) (i + (l.length - (i + 1))) R = IT (l.eraseIdx i) ++ (R ++ (over (IT l) i (((IT l).drop (i + 1)).take (l.length - (i + 1)))).drop (i + (l.length - (i + 1)) + R.length)) := by
  have e : ((IT l).drop (i + 1)).take (l.length - (i + 1)) = IT (l.drop (i + 1)) := by
    rw [IT_drop, List.take_of_length_le (by rw [IT_len, List.length_drop]; omega)]
  have e2 : (over (IT l) i (IT (l.drop (i + 1)))).take (i + (l.length - (i + 1))) = IT (l.eraseIdx i) := by
    unfold over
    rw [List.eraseIdx_eq_take_drop_succ, IT_append, IT_take]
    have : i + (l.length - (i + 1)) = (IT (l.take i) ++ IT (l.drop (i + 1))).length := by
      rw [List.length_append, IT_len, IT_len, List.length_take, List.length_drop]; omega
    rw [this, List.take_left']
    rfl
  rw [e]
  generalize over (IT l) i (IT (l.drop (i + 1))) = X at *
  unfold over
  rw [e2, List.append_assoc]
theorem over_end (l : List (Int × Int)) {i : Nat} (h : i + 1 = l.length) (R : List (List AV)) : over (over (IT l) i []) i R = IT (l.eraseIdx i) ++ (R ++ (over (IT l) i []).drop (i + R.length)) := by
  have e : over (IT l) i [] = IT l := by simp [over]
  have e2 : (IT l).take i = IT (l.eraseIdx i) := by
    rw [List.eraseIdx_eq_take_drop_succ, List.drop_of_length_le (by omega), List.append_nil, IT_take]
  rw [e]
  show (IT l).take i ++ R ++ _ = _
  rw [e2, List.append_assoc]
/-- A slice of known capacity told as one of any. -/
theorem HCalls.uncap {P : Program} {f : FuncId} {args : List AV} {H : AH} {n : Nat} {Q : AV → AH → Nat → Prop} (h : HCalls P f args H n fun v H' n' => ∃ id z off m c, v = .slc id z off m c ∧ Q (.sl id z off m) H' n') : HCalls P f args H n Q :=
  ⟨h.1, fun w B0 base β cargs h1 h2 h3 h4 => (h.2 w B0 base β cargs h1 h2 h3 h4).mono fun _ w' ⟨β', n', H', r, v, k1, k2, k3, k4, id, z, off, m, c, e, q⟩ => by
    subst e
    exact ⟨β', n', H', _, v, k1, k2, k3, k4.uncap, q⟩⟩
end Go.Al.K12
end
section
set_option linter.unusedVariables false
set_option linter.unusedSimpArgs false
set_option maxRecDepth 20000
set_option maxHeartbeats 3200000
-- NOIDS: noIdsE_IT
-- LENS: IT_len
namespace Go.Al.K12
open Go.Proofs
end Go.Al.K12
end
section
set_option linter.unusedVariables false
set_option linter.unusedSimpArgs false
set_option maxRecDepth 20000
set_option maxHeartbeats 3200000
-- NOIDS: noIdsE_IT
-- LENS: IT_len
namespace Go.Al.K12
open Go.Proofs
/-- A capacity, a stack, a queue. -/
structure LS where
  C : Int
  S : List (Int × Int)
  Q : List Int
def SL (s : LS) : AV := .agg [.sc (.int .i64 s.C), .lst 2 (IT s.S), .lst 1 (U s.Q)]
end Go.Al.K12
end
section
set_option linter.unusedVariables false
set_option linter.unusedSimpArgs false
set_option maxRecDepth 20000
set_option maxHeartbeats 3200000
-- axs, axw, aresL, afill, Value.oneCell', Nat.reduceLT, Nat.reduceLeDiff, Nat.reduceEqDiff, Nat.reduceAdd, Nat.reduceMul, Nat.reduceSub, Nat.reduceBEq, Int.reduceLE, Int.reduceLT, Int.reduceToNat, Int.reduceNeg, Int.reduceEq, axt, ftK, ft3, AAll, ftQ, SL, tys: SL
-- NOIDS: noIdsE_IT
-- LENS: IT_len
namespace Go.Al.K12
open Go.Proofs
def takeP (S : List (Int × Int)) (i : Int) : List (Int × Int) := if i < 0 then S else S.eraseIdx i.toNat
def remK (S : List (Int × Int)) (k : Int) : List (Int × Int) := takeP S (idxK S k)
def pruned (S : List (Int × Int)) : List (Int × Int) := S.take (upTo 2 S)
def setKd (S : List (Int × Int)) (i : Nat) (kd : Int) : List (Int × Int) := S.set i ((S.getD i (0, 0)).1, kd)
def lastQ (Q : List Int) (k : Int) : List Int := without Q k ++ [k]
def roomOf (C : Int) : Int := C - (if 1 > C.tdiv 100 then 1 else C.tdiv 100)
end Go.Al.K12
end
section
set_option linter.unusedVariables false
set_option linter.unusedSimpArgs false
set_option maxRecDepth 20000
set_option maxHeartbeats 3200000
-- axs, axw, aresL, afill, Value.oneCell', Nat.reduceLT, Nat.reduceLeDiff, Nat.reduceEqDiff, Nat.reduceAdd, Nat.reduceMul, Nat.reduceSub, Nat.reduceBEq, Int.reduceLE, Int.reduceLT, Int.reduceToNat, Int.reduceNeg, Int.reduceEq, axt, ftK, ft3, AAll, ftQ, SL, tys: SL
-- NOIDS: noIdsE_IT
-- LENS: IT_len
namespace Go.Al.K12
open Go.Proofs
theorem idxK_lt (S : List (Int × Int)) (k : Int) : idxK S k < S.length ∧ -1 ≤ idxK S k := by
  rcases idxT_cases (fun x => decide (x.1 = k)) S with ⟨h, _⟩ | ⟨p, x, h, hx, _⟩
  · have h : idxK S k = -1 := h
    omega
  · have h : idxK S k = p := h
    have := (List.getElem?_eq_some_iff.1 hx).1
    omega
theorem takeP_len (S : List (Int × Int)) (i : Int) : (takeP S i).length ≤ S.length := by
  unfold takeP
  split
  · omega
  · rw [List.length_eraseIdx]; split <;> omega
end Go.Al.K12
end
section
set_option linter.unusedVariables false
set_option linter.unusedSimpArgs false
namespace Go.Al.K12
section
variable {k j : Int} {S A B : List (Int × Int)}
theorem setKd_at (A B : List (Int × Int)) (x : Int × Int) (kd : Int) : setKd (A ++ x :: B) A.length kd = A ++ (x.1, kd) :: B := by
  unfold setKd
  rw [List.getD_eq_getElem?_getD, List.getElem?_append_right (Nat.le_refl _), Nat.sub_self, List.set_append_right _ _ (Nat.le_refl _), Nat.sub_self]
  rfl
theorem setKd_len (S : List (Int × Int)) (i : Nat) (kd : Int) : (setKd S i kd).length = S.length := List.length_set ..
theorem many_pruned (S : List (Int × Int)) : many 2 (pruned S) = many 2 S := by
  unfold pruned
  rcases upTo_spec (k := 2) S with ⟨h1, h2⟩ | ⟨A, x, B, h1, h2, h3, h4⟩
  · rw [h1, List.take_zero, many_zero.2 h2]; rfl
  · rw [h2]
    have e : S.take (A.length + 1) = A ++ [x] := by
      rw [h1, show A ++ x :: B = (A ++ [x]) ++ B by simp, List.take_left' (by simp)]
    rw [e]
    conv => rhs; rw [h1, show A ++ x :: B = (A ++ [x]) ++ B by simp, many_append, many_zero.2 h4]
    rfl
theorem pruned_len (S : List (Int × Int)) : (pruned S).length ≤ S.length := by unfold pruned; rw [List.length_take]; omega
/-- The last item of a kind, taken apart. -/
theorem last_of (h : 0 < many k S) : ∃ A x B, S = A ++ x :: B ∧ upTo k S = A.length + 1 ∧ x.2 = k ∧ ∀ y ∈ B, y.2 ≠ k := by
  rcases upTo_spec (k := k) S with ⟨_, h2⟩ | h2
  · rw [many_zero.2 h2] at h; omega
  · exact h2
end
def coolS (s : LS) : LS := ⟨s.C, pruned (setKd s.S (upTo 2 s.S - 1) 1), lastQ s.Q (s.S.getD (upTo 2 s.S - 1) (0, 0)).1⟩
theorem coolS_many {s : LS} (h : 0 < many 2 s.S) : many 2 (coolS s).S + 1 = many 2 s.S := by
  obtain ⟨A, x, B, h1, h2, h3, h4⟩ := last_of h
  show many 2 (pruned (setKd s.S (upTo 2 s.S - 1) 1)) + 1 = _
  rw [many_pruned, h2, Nat.add_sub_cancel, h1, setKd_at, many_append, many_append, many_cons, many_cons, if_neg (fun h : (1 : Int) = 2 => absurd h (by decide)), if_pos h3]
  omega
theorem coolS_len (s : LS) : (coolS s).S.length ≤ s.S.length ∧ (coolS s).Q.length ≤ s.Q.length + 1 := by
  refine ⟨?_, ?_⟩
  · have h1 := pruned_len (setKd s.S (upTo 2 s.S - 1) 1)
    rw [setKd_len] at h1
    exact h1
  · show (lastQ _ _).length ≤ _
    unfold lastQ
    rw [List.length_append, List.length_singleton]
    have := without_len s.Q (s.S.getD (upTo 2 s.S - 1) (0, 0)).1
    omega
def cooled : Nat → LS → LS
  | 0, s => s
  | m + 1, s => if (many 2 s.S : Int) > roomOf s.C then cooled m (coolS s) else s
def coolL (s : LS) : LS := cooled (many 2 s.S) s
theorem cooled_stop {m : Nat} {s : LS} (h : ¬ (many 2 s.S : Int) > roomOf s.C) : cooled m s = s := by
  cases m with
  | zero => rfl
  | succ m => exact if_neg h
theorem roomOf_le {C : Int} (h0 : 1 ≤ C) : 0 ≤ roomOf C ∧ roomOf C ≤ C - 1 := by
  have ht : 0 ≤ C.tdiv 100 ∧ C.tdiv 100 ≤ C := ⟨Int.tdiv_nonneg (by omega) (by omega), Int.tdiv_le_self _ (by omega)⟩
  unfold roomOf
  split <;> omega
def forgot : Nat → LS → LS
  | 0, s => s
  | m + 1, s => if (many 0 s.S : Int) > s.C then forgot m ⟨s.C, takeP s.S ((upTo 0 s.S : Int) - 1), s.Q⟩ else s
def forgetL (s : LS) : LS := forgot (many 0 s.S) s
theorem forgot_stop {m : Nat} {s : LS} (h : ¬ (many 0 s.S : Int) > s.C) : forgot m s = s := by
  cases m with
  | zero => rfl
  | succ m => exact if_neg h
theorem take_last {k : Int} {S : List (Int × Int)} (h : 0 < many k S) : many k (takeP S ((upTo k S : Int) - 1)) + 1 = many k S ∧ ∃ A x B, S = A ++ x :: B ∧ takeP S ((upTo k S : Int) - 1) = A ++ B ∧ x.2 = k := by
  obtain ⟨A, x, B, h1, h2, h3, h4⟩ := last_of h
  have e : takeP S ((upTo k S : Int) - 1) = A ++ B := by
    unfold takeP
    rw [h2, if_neg (by omega), show (((A.length + 1 : Nat) : Int) - 1).toNat = A.length by omega]
    conv => lhs; rw [h1]
    rw [List.eraseIdx_append_of_length_le (Nat.le_refl _), Nat.sub_self]
    rfl
  refine ⟨?_, A, x, B, h1, e, h3⟩
  rw [e]
  conv => rhs; rw [h1]
  rw [many_append, many_append, many_cons, if_pos h3]
  omega
def shrS (s : LS) : LS := ⟨s.C, if idxK s.S (s.Q.headD 0) ≥ 0 then setKd s.S (idxK s.S (s.Q.headD 0)).toNat 0 else s.S, s.Q.tail⟩
def shrunk (z : Int) : Nat → LS → List Int → LS × List Int
  | 0, s, out => (s, out)
  | m + 1, s, out => if (many 2 s.S : Int) + s.Q.length > z then shrunk z m (shrS s) (out ++ [s.Q.headD 0]) else (s, out)
def shrinkL (z : Int) (s : LS) : LS × List Int := shrunk z s.Q.length s []
theorem shrunk_stop {z : Int} {m : Nat} {s : LS} {out : List Int} (h : ¬ (many 2 s.S : Int) + s.Q.length > z) : shrunk z m s out = (s, out) := by
  cases m with
  | zero => rfl
  | succ m => exact if_neg h
theorem many_set0 (S : List (Int × Int)) (i : Nat) : many 2 (setKd S i 0) ≤ many 2 S := by
  rcases Nat.lt_or_ge i S.length with h | h
  · have hS : S = S.take i ++ S[i] :: S.drop (i + 1) := by rw [List.getElem_cons_drop, List.take_append_drop]
    have e : setKd S i 0 = S.take i ++ (S[i].1, 0) :: S.drop (i + 1) := by
      have := setKd_at (S.take i) (S.drop (i + 1)) S[i] 0
      rw [← hS, List.length_take, Nat.min_eq_left (by omega)] at this
      exact this
    rw [e]
    conv => rhs; rw [hS]
    rw [many_append, many_append, many_cons, many_cons, if_neg (fun h : (0 : Int) = 2 => absurd h (by decide))]
    omega
  · unfold setKd
    rw [List.set_eq_of_length_le h]
    exact Nat.le_refl _
theorem shrS_many (s : LS) : many 2 (shrS s).S ≤ many 2 s.S := by
  show many 2 (if _ then _ else _) ≤ _
  split
  · exact many_set0 _ _
  · exact Nat.le_refl _
theorem shrS_len (s : LS) : (shrS s).S.length = s.S.length := by
  show (if _ then _ else _ : List (Int × Int)).length = _
  split
  · exact setKd_len _ _ _
  · rfl
end Go.Al.K12
end
section
set_option linter.unusedVariables false
set_option linter.unusedSimpArgs false
set_option maxRecDepth 20000
set_option maxHeartbeats 3200000
-- axs, axw, aresL, afill, Value.oneCell', Nat.reduceLT, Nat.reduceLeDiff, Nat.reduceEqDiff, Nat.reduceAdd, Nat.reduceMul, Nat.reduceSub, Nat.reduceBEq, Int.reduceLE, Int.reduceLT, Int.reduceToNat, Int.reduceNeg, Int.reduceEq, axt, ftK, ft3, AAll, ftQ, SL, tys: SL
-- NOIDS: noIdsE_IT
-- LENS: IT_len
namespace Go.Al.K12
open Go.Proofs
end Go.Al.K12
end
section
set_option linter.unusedVariables false
set_option linter.unusedSimpArgs false
set_option maxRecDepth 20000
set_option maxHeartbeats 3200000
-- axs, axw, aresL, afill, Value.oneCell', Nat.reduceLT, Nat.reduceLeDiff, Nat.reduceEqDiff, Nat.reduceAdd, Nat.reduceMul, Nat.reduceSub, Nat.reduceBEq, Int.reduceLE, Int.reduceLT, Int.reduceToNat, Int.reduceNeg, Int.reduceEq, axt, ftK, ft3, AAll, ftQ, SL, tys: SL
-- NOIDS: noIdsE_IT
-- LENS: IT_len
namespace Go.Al.K12
open Go.Proofs
end Go.Al.K12
end
section
set_option linter.unusedVariables false
set_option linter.unusedSimpArgs false
set_option maxRecDepth 20000
set_option maxHeartbeats 3200000
-- axs, axw, aresL, afill, Value.oneCell', Nat.reduceLT, Nat.reduceLeDiff, Nat.reduceEqDiff, Nat.reduceAdd, Nat.reduceMul, Nat.reduceSub, Nat.reduceBEq, Int.reduceLE, Int.reduceLT, Int.reduceToNat, Int.reduceNeg, Int.reduceEq, axt, ftK, ft3, AAll, ftQ, SL, tys: SL
-- NOIDS: noIdsE_IT
-- LENS: IT_len
namespace Go.Al.K12
open Go.Proofs
/-- The keys of a kind. -/
def hotK (S : List (Int × Int)) : List Int := (S.filter fun x => decide (x.2 = 2)).map Prod.fst
def liKeys (s : LS) : List Int := hotK s.S ++ s.Q
theorem hotK_len (S : List (Int × Int)) : (hotK S).length = many 2 S := List.length_map ..
theorem hotK_snoc (A : List (Int × Int)) (x : Int × Int) : hotK (A ++ [x]) = hotK A ++ (if x.2 = 2 then [x.1] else []) := by
  unfold hotK
  rw [List.filter_append, List.map_append]
  by_cases h : x.2 = 2
  · rw [if_pos h, List.filter_cons_of_pos (by simpa using h)]; rfl
  · rw [if_neg h, List.filter_cons_of_neg (by simpa using h)]; rfl
theorem Live.upd {te z i : Nat} {H : AH} {es : List (List AV)} {v : AV} {o : Option AO} (h : Live te z H es v) (hi : ∀ es', H i ≠ some (.obj te z es' false)) : Live te z (Al.upd H i o) es v := by
  rcases h with ⟨h1, h2⟩ | ⟨id, h1, h2⟩
  · exact .inl ⟨h1, h2⟩
  · refine .inr ⟨id, h1, ?_⟩
    rw [upd_ne]
    · exact h2
    · rintro rfl
      exact hi _ h2
/-- A live row stays, where a new thing is written. -/
theorem Live.past {te z b k : Nat} {H : AH} {es : List (List AV)} {v : AV} {o : Option AO} (h : Live te z H es v) (hb : ∀ id z o m, v = .sl id z o m → id < b) (hk : b ≤ k) : Live te z (Al.upd H k o) es v := by
  rcases h with ⟨h1, h2⟩ | ⟨id, h1, h2⟩
  · exact .inl ⟨h1, h2⟩
  · exact .inr ⟨id, h1, (upd_ne _ _ (by have := hb _ _ _ _ h1; omega)).trans h2⟩
theorem Live.below {te z : Nat} {s : AS} {es : List (List AV)} {v : AV} (h : Live te z s.H es v) (hb : Al.Below s) : ∀ id z o m, v = .sl id z o m → id < s.n := by
  intro id z o m e
  rcases h with ⟨h1, h2⟩ | ⟨id', h1, h2⟩
  · rw [h2] at e; cases e
  · rw [h1] at e
    cases e
    exact hb _ _ h2
end Go.Al.K12
end
section
set_option linter.unusedVariables false
set_option linter.unusedSimpArgs false
namespace Go.Al.K12
def stkL (s : LS) (k kd : Int) : LS := ⟨s.C, (k, kd) :: remK s.S k, s.Q⟩
def pruneL (s : LS) : LS := ⟨s.C, pruned s.S, s.Q⟩
def behindL (s : LS) (k : Int) : LS := ⟨s.C, s.S, lastQ s.Q k⟩
/-- A key's item is hot. -/
def hotAt (s : LS) (k : Int) : Prop := idxK s.S k ≥ 0 ∧ (s.S.getD (idxK s.S k).toNat (0, 0)).2 = 2
instance (s : LS) (k : Int) : Decidable (hotAt s k) := inferInstanceAs (Decidable (_ ∧ _))
def liTouch (s : LS) (k : Int) : LS :=
  if hotAt s k then pruneL (stkL s k 2) else if k ∉ s.Q then s else if idxK s.S k ≥ 0 then pruneL (coolL ⟨s.C, (k, 2) :: remK s.S k, without s.Q k⟩) else pruneL (behindL (stkL s k 1) k)
/-- Behind an eviction: the key comes. -/
def liCome (s : LS) (k : Int) : LS :=
  if (many 2 s.S : Int) < roomOf s.C ∨ idxK s.S k ≥ 0 then coolL (stkL s k 2) else behindL (stkL s k 1) k
def liAdmit (s : LS) (k : Int) : LS × List Int :=
  if k ∈ liKeys s then (s, []) else (forgetL (pruneL (liCome (shrinkL (s.C - 1) s).1 k)), (shrinkL (s.C - 1) s).2)
def liDrop (s : LS) (k : Int) : LS := pruneL ⟨s.C, remK s.S k, without s.Q k⟩
def liResize (s : LS) (c : Int) : LS × List Int :=
  (forgetL (pruneL (shrinkL (capOf c) (coolL ⟨capOf c, s.S, s.Q⟩)).1), (shrinkL (capOf c) (coolL ⟨capOf c, s.S, s.Q⟩)).2)
theorem cooled_facts : ∀ (m : Nat) (s : LS), 1 ≤ s.C → many 2 s.S ≤ m → (cooled m s).C = s.C ∧ (cooled m s).S.length ≤ s.S.length ∧ (cooled m s).Q.length ≤ s.Q.length + m ∧ (many 2 (cooled m s).S : Int) ≤ roomOf s.C
  | 0, s, h, hm => ⟨rfl, Nat.le_refl _, by show s.Q.length ≤ _; omega, by have := (roomOf_le h).1; show (many 2 s.S : Int) ≤ _; omega⟩
  | m + 1, s, h, hm => by
    unfold cooled
    split
    · rename_i hc
      have hr := (roomOf_le h).1
      obtain ⟨n1, n2⟩ := coolS_len s
      have n3 := coolS_many (s := s) (by omega)
      obtain ⟨a1, a2, a3, a4⟩ := cooled_facts m (coolS s) h (by omega)
      exact ⟨a1, by omega, by omega, a4⟩
    · exact ⟨rfl, Nat.le_refl _, by omega, by omega⟩
theorem coolL_facts (s : LS) (c0 : 1 ≤ s.C) : (coolL s).C = s.C ∧ (coolL s).S.length ≤ s.S.length ∧ (coolL s).Q.length ≤ s.Q.length + s.S.length ∧ (many 2 (coolL s).S : Int) ≤ roomOf s.C := by
  obtain ⟨a1, a2, a3, a4⟩ := cooled_facts (many 2 s.S) s c0 (Nat.le_refl _)
  have := many_le 2 s.S
  exact ⟨a1, a2, by unfold coolL; omega, a4⟩
theorem shrunk_facts (z : Int) : ∀ (m : Nat) (s : LS) (out : List Int), (shrunk z m s out).1.C = s.C ∧ (shrunk z m s out).1.S.length = s.S.length ∧ (shrunk z m s out).1.Q.length ≤ s.Q.length ∧ many 2 (shrunk z m s out).1.S ≤ many 2 s.S ∧ (shrunk z m s out).2.length ≤ out.length + m
  | 0, s, out => ⟨rfl, rfl, Nat.le_refl _, Nat.le_refl _, Nat.le_refl _⟩
  | m + 1, s, out => by
    unfold shrunk
    split
    · obtain ⟨a1, a2, a3, a4, a5⟩ := shrunk_facts z m (shrS s) (out ++ [s.Q.headD 0])
      have h1 := shrS_many s
      have h2 := shrS_len s
      have h3 : (shrS s).Q.length ≤ s.Q.length := by show s.Q.tail.length ≤ _; rw [List.length_tail]; omega
      rw [List.length_append, List.length_singleton] at a5
      exact ⟨a1, by omega, by omega, by omega, by omega⟩
    · exact ⟨rfl, rfl, Nat.le_refl _, Nat.le_refl _, by simp⟩
theorem forgot_facts : ∀ (m : Nat) (s : LS), (forgot m s).C = s.C ∧ (forgot m s).S.length ≤ s.S.length ∧ (forgot m s).Q = s.Q
  | 0, s => ⟨rfl, Nat.le_refl _, rfl⟩
  | m + 1, s => by
    unfold forgot
    split
    · obtain ⟨a1, a2, a3⟩ := forgot_facts m ⟨s.C, takeP s.S ((upTo 0 s.S : Int) - 1), s.Q⟩
      have := takeP_len s.S ((upTo 0 s.S : Int) - 1)
      exact ⟨a1, by simp only at a2; omega, a3⟩
    · exact ⟨rfl, Nat.le_refl _, rfl⟩
theorem lastQ_len (Q : List Int) (k : Int) : (lastQ Q k).length ≤ Q.length + 1 := by
  unfold lastQ
  have := without_len Q k
  rw [List.length_append, List.length_singleton]; omega
theorem remK_len (S : List (Int × Int)) (k : Int) : (remK S k).length ≤ S.length := takeP_len _ _
theorem liCome_facts (s : LS) (k : Int) (c0 : 1 ≤ s.C) : (liCome s k).C = s.C ∧ (liCome s k).S.length ≤ s.S.length + 1 ∧ (liCome s k).Q.length ≤ s.Q.length + s.S.length + 1 := by
  have h1 := remK_len s.S k
  have h2 := lastQ_len s.Q k
  have h3 := coolL_facts (stkL s k 2) c0
  have h4 : (stkL s k 2).S.length ≤ s.S.length + 1 := by show (_ :: remK s.S k).length ≤ _; rw [List.length_cons]; omega
  have h5 : (stkL s k 2).Q = s.Q := rfl
  have h6 : (stkL s k 2).C = s.C := rfl
  unfold liCome
  split
  · rw [h5, h6] at h3
    exact ⟨h3.1, by omega, by omega⟩
  · refine ⟨rfl, ?_, ?_⟩
    · show (_ :: remK s.S k).length ≤ _; rw [List.length_cons]; omega
    · show (lastQ s.Q k).length ≤ _; omega
end Go.Al.K12
end
