/- A list's places, one by one: what a loop over them is handed, and the loop that gathers them. Conditions: the list is short. -/
import Derived.RangeFuncBox
import Derived.RangeFuncLeaves
import Derived.Shelf.Abstract
import Derived.WalkKit
import Derived.OwnWalkIn
import Derived.TacticsInMore
import Derived.LoopNIn
import Derived.LoopIn
import Derived.Maps.AppendAt
import Derived.Test.YtdebjhjnpomlmaaTy
set_option linter.unusedVariables false
set_option linter.unusedSimpArgs false
namespace Go.Al
open Go.Proofs Go.RowKit Go.Shelf
theorem grown_below {W W' : World} (hb : RowKit.Below W.heap.size W W') : W.grownBy W' none := ⟨hb.os, hb.tape, hb.output, hb.size, fun k hk _ => hb.block k hk⟩
/-- What lay below n₀ lies as it lay, and two boxes. -/
def Kb (n₀ B1 B2 : Nat) (W W' : World) : Prop := RowKit.Below n₀ W W' ∧ W'.heap[B1]? = W.heap[B1]? ∧ W'.heap[B2]? = W.heap[B2]?
theorem Kb.trans {n₀ B1 B2 : Nat} {A B C : World} (h : Kb n₀ B1 B2 A B) (k : Kb n₀ B1 B2 B C) : Kb n₀ B1 B2 A C := ⟨h.1.trans k.1, k.2.1.trans h.2.1, k.2.2.trans h.2.2⟩
def leftI (xs : List Int) : Value → Nat
  | .int _ i => if i = 0 then 0 else xs.length - xs.idxOf i
  | _ => 0
def hd0 : List Int → Int
  | [] => 0
  | x :: _ => x
theorem hd0_nil : hd0 [] = 0 := rfl
theorem hd0_cons (x : Int) (l : List Int) : hd0 (x :: l) = x := rfl
/-- What a list's own functions tell, wherever what lay below n₀ lies as it lay. -/
structure Iter (W₀ : World) (n₀ : Nat) (pv : Value) (t : Int) (xs : List Int) : Prop where
  nd : xs.Nodup
  nz : ∀ x ∈ xs, x ≠ 0
  front : ∀ W, RowKit.Below n₀ W₀ W → Calls Try.prog 52 #[pv, .int .i64 t] W fun e W' => e = .returned (.int .i32 (hd0 xs)) ∧ RowKit.Below W.heap.size W W'
  after : ∀ pre x rest, xs = pre ++ x :: rest → ∀ W, RowKit.Below n₀ W₀ W → Calls Try.prog 90 #[pv, .int .i32 x] W fun e W' => e = .returned (.int .i32 (hd0 rest)) ∧ RowKit.Below W.heap.size W W'
theorem left_at {xs pre rest : List Int} {x : Int} (h : xs = pre ++ x :: rest) (nd : xs.Nodup) (nz : x ≠ 0) : leftI xs (.int .i32 x) = xs.length - pre.length := by
  show (if x = 0 then 0 else xs.length - xs.idxOf x) = _
  rw [if_neg nz]
  subst h
  have : x ∉ pre := fun hx => by
    rw [List.nodup_append] at nd
    exact nd.2.2 x hx x (by simp) rfl
  rw [List.idxOf_append, if_neg this]
  simp
theorem left_le {xs pre rest : List Int} (h : xs = pre ++ rest) (nd : xs.Nodup) (nz : ∀ x ∈ xs, x ≠ 0) : leftI xs (.int .i32 (hd0 rest)) = rest.length := by
  cases rest with
  | nil => rfl
  | cons x r =>
    rw [hd0_cons, left_at h nd (nz x (by rw [h]; simp)), h]
    simp
set_option maxRecDepth 100000 in
set_option maxHeartbeats 1000000 in
theorem slots1_in (n : Nat) (hn : 1 ≤ n) (l B1 B2 n₀ : Nat) (W₀ : World) (t : Int) (xs : List Int) (pv : Value) (it : Iter W₀ n₀ pv t xs) (J Jx : List Int → World → Prop)
    (hY : ∀ pre x W, J pre W → pre.length < xs.length → YieldAt Fence.wide (n - 1) Try.prog l #[.int .i32 x] W fun e W' =>
      (e = .returned (.bool true) ∧ J (pre ++ [x]) W' ∧ Kb n₀ B1 B2 W W') ∨ (e = .returned (.bool false) ∧ Jx (pre ++ [x]) W'))
    (W : World) (hJ : AbidesFrom W.heap.size J) (h1 : Boxed W B1 66 pv) (h2 : Boxed W B2 3 (.int .i64 t)) (hW : RowKit.Below n₀ W₀ W) (hnW : n₀ ≤ W.heap.size) (h0 : J [] W) :
    CallsIn Fence.wide n Try.prog 89 #[.func (.yield l) #[] #[], .pointer (some ⟨B1, 0, none⟩), .pointer (some ⟨B2, 0, none⟩)] W fun e W' => (∃ v, e = .returned v) ∧
      ((∃ ys, ys = xs ∧ J ys W') ∨ (∃ pre, pre <+: xs ∧ Jx pre W')) := by
  have c1 := h1.cell
  have c2 := h2.cell
  have hf1 : Fence.wide.fn 52 := trivial
  have hf2 : Fence.wide.fn 90 := trivial
  refine callsIn_of_wp Try.func89 rfl trivial ?_ rfl
  simp only [Try.ntmps89, List.size_toArray, List.length_cons, List.length_nil, Nat.reduceAdd, Nat.reduceSub, Array.replicate_succ, Array.replicate_zero, List.push_toArray, List.append_toArray, List.nil_append, List.cons_append]
  gi_wp2_with (gi_at_call 52; refine (callsIn_wide.2 (it.front W hW)).mono ?_; rintro e w' ⟨rfl, hb⟩)
  have hJ0 : J [] w' := hJ [] W w' none h0 (grown_below hb) (fun r e => by cases e)
  have g1 : Boxed w' B1 66 pv := (hb.block _ h1.lt).trans h1
  have g2 : Boxed w' B2 3 (.int .i64 t) := (hb.block _ h2.lt).trans h2
  have hW' : RowKit.Below n₀ W₀ w' := hW.trans (hb.mono hnW)
  have hsz := hb.size
  obtain ⟨f0, hf0⟩ : ∃ f0, hd0 xs = f0 := ⟨_, rfl⟩
  rw [hf0]
  gi_loopw [4] (fun p wr => ∃ (pre rest : List Int), p = .int .i32 (hd0 rest) ∧ xs = pre ++ rest ∧ J pre wr ∧ RowKit.Below n₀ W₀ wr ∧ w'.heap.size ≤ wr.heap.size ∧ wr.heap[B1]? = w'.heap[B1]? ∧ wr.heap[B2]? = w'.heap[B2]?)
    (fun p wr => leftI xs p)
  case atStart =>
    exact ⟨[], xs, by rw [hf0], rfl, hJ0, hW', Nat.le_refl _, rfl, rfl⟩
  case round =>
    obtain ⟨pre, rest, rfl, hx, hJs, hWr, hsr, e1, e2⟩ := hrel
    have r1 : Boxed wr B1 66 pv := e1.trans g1
    have r2 : Boxed wr B2 3 (.int .i64 t) := e2.trans g2
    have q1 := r1.cell
    have q2 := r2.cell
    cases rest with
    | nil =>
      simp only [hd0_nil, hd0_cons]
      gi_wp2
      refine ⟨(fun f h => nomatch h), ?_⟩
      gi_wp2
      go_end0
      exact ⟨⟨_, rfl⟩, .inl ⟨pre, by simp [hx], hJs⟩⟩
    | cons x rest =>
      obtain ⟨fn, tmps, assign, body, hy, hR⟩ := hY pre x wr hJs (by rw [hx]; simp)
      have hx0 : ¬ x = 0 := it.nz x (by rw [hx]; simp)
      simp only [hd0_nil, hd0_cons]
      gi_wp2
      refine hR.mono ?_
      rintro e W3 (⟨rfl, hJ3, hk3⟩ | ⟨rfl, hJx3⟩)
      · have s1 : Boxed W3 B1 66 pv := hk3.2.1.trans r1
        have s2 : Boxed W3 B2 3 (.int .i64 t) := hk3.2.2.trans r2
        have p1 := s1.cell
        have hW3 : RowKit.Below n₀ W₀ W3 := hWr.trans hk3.1
        gi_wp2_with (gi_at_call 90; refine (callsIn_wide.2 (it.after pre x rest hx W3 hW3)).mono ?_; rintro e w4 ⟨rfl, hb4⟩)
        have hs3 := hk3.1.size
        have hs4 := hb4.size
        go_roundw
        case rel => exact ⟨pre ++ [x], rest, rfl, by simp [hx], hJ _ W3 w4 none hJ3 (grown_below hb4) (fun r e => by cases e), hW3.trans (hb4.mono (by omega)), by omega, (hb4.block _ s1.lt).trans (hk3.2.1.trans e1), (hb4.block _ s2.lt).trans (hk3.2.2.trans e2)⟩
        case measure =>
          show leftI xs (.int .i32 (hd0 rest)) < leftI xs (.int .i32 x)
          rw [left_le (pre := pre ++ [x]) (by simp [hx]) it.nd it.nz, left_at hx it.nd hx0, hx]
          simp only [List.length_append, List.length_cons]
          omega
      · gi_wp2
        go_end0
        exact ⟨⟨_, rfl⟩, .inr ⟨pre ++ [x], ⟨rest, by simp [hx]⟩, hJx3⟩⟩
end Go.Al
