/- Slots that are taken and freed, by the program, told of the reference's state. Conditions: the rows are short. -/
import Derived.Test.YtdebjhjnpomlmaaAn8
set_option linter.unusedVariables false
set_option linter.unusedSimpArgs false
set_option maxRecDepth 20000
set_option maxHeartbeats 1600000
-- axs, AThen, ABlock, dstsOk, AStep, callsF, AWant, aop, AS.ev, AS.put, upd, AS.bound, abin, aint, aload, astore, cellsAt, AV.cells, alen, elems, AV.int?, FPost, aresL, ares1, pack, afill, splice, Value.oneCell', Nat.reduceLT, Nat.reduceLeDiff, Nat.reduceEqDiff, Nat.reduceAdd, Nat.reduceMul, Nat.reduceSub, Nat.reduceBEq, Int.reduceLE, Int.reduceLT, Int.reduceToNat, Int.reduceNeg, Int.reduceEq, axt, ftK, ft3, pickP, AScope, AAll, pickQ, ftQ, inHeap, RV, Nd.cells, tys: RV, Nd.cells
-- NOIDS: noIdsE_I32, noIdsE_ND
-- LENS: I32_len, ND_len
namespace Go.Al
open Go.Proofs
theorem ra_len {R : RA} (ok : RaOk R) : ((arnOf R).slots.length : Int) = R.len := by
  have := ok.e0
  have := ok.e1
  rw [slots_len]; omega
theorem cRIs {H : AH} {n a s : Nat} {fv : AV} {R : RA} (h : ArH H n a s fv (arnOf R)) (ok : RaOk R) (i : Int) (hi : I32ok i) :
    HCalls Try.prog 70 [.ptr a 4 0 0, .sc (.int .i32 i)] H n fun r H' n' => r = .sc (.bool (raIs R i)) ∧ H' = H ∧ n' = n := by
  have := cArIs h i hi
  rwa [arIs_of ok] at this
theorem cRAt {H : AH} {n a s : Nat} {fv : AV} {R : RA} (h : ArH H n a s fv (arnOf R)) (ok : RaOk R) (i : Int) (hi : I32ok i) :
    HCalls Try.prog 46 [.ptr a 4 0 0, .sc (.int .i32 i)] H n fun r H' n' => r = .agg (raAt R i).cells ∧ H' = upd H n (some (.obj 82 6 [(raAt R i).cells] false)) ∧ n' = n + 1 := by
  have := cArAt h i hi
  rwa [arAt_of ok] at this
theorem cRLen {H : AH} {n a s : Nat} {fv : AV} {R : RA} (h : ArH H n a s fv (arnOf R)) (ok : RaOk R) :
    HCalls Try.prog 41 [.ptr a 4 0 0] H n fun r H' n' => r = .sc (.int .i64 R.len) ∧ H' = H ∧ n' = n := by
  have := cArLen h
  rwa [ra_len ok] at this
theorem cRSet {H : AH} {n a s : Nat} {fv : AV} {R : RA} (h : ArH H n a s fv (arnOf R)) (ok : RaOk R) (i : Int) (hi : I32ok i) (x : Nd) :
    HCalls Try.prog 74 [.ptr a 4 0 0, .sc (.int .i32 i), .agg x.cells] H n fun r H' n' => r = .sc (.bool (raSet R i x).2) ∧ H' = setH H n s (arnOf (raSet R i x).1) x ∧ n' = n + 1 := by
  have := cArSet h i hi x
  rwa [(arSet_of ok i x).1] at this
theorem ArH.setR {H : AH} {n a s : Nat} {fv : AV} {R : RA} (h : ArH H n a s fv (arnOf R)) (ok : RaOk R) (i : Int) (x : Nd) : ArH (setH H n s (arnOf (raSet R i x).1) x) (n + 1) a s fv (arnOf (raSet R i x).1) := by
  have h2 := arSet_rows (arnOf R) i x
  rw [(arSet_of ok i x).1] at h2
  exact h.set x h2.1 h2.2.1 h2.2.2.1 h2.2.2.2
theorem cRFree {H : AH} {n a s : Nat} {fv : AV} {R : RA} (h : ArH H n a s fv (arnOf R)) (ok : RaOk R) (i : Int) (hi : I32ok i) (hl : R.len ≤ 1000000) :
    HCalls Try.prog 59 [.ptr a 4 0 0, .sc (.int .i32 i)] H n fun r H' n' => r = .sc (.bool (raFree R i).2) ∧ ArTo H n a s fv H' n' (arnOf (raFree R i).1) := by
  have hf := ra_free_len ok
  have e0 := ok.e0
  have e1 := ok.e1
  have := cArFree h i hi (by show R.freed.length ≤ _; omega) (by show 0 ≤ raLive R; unfold raLive; omega) (by show raLive R ≤ _; unfold raLive; omega)
  rwa [(arFree_of ok i).1] at this
theorem cRAlloc {H : AH} {n a s : Nat} {fv : AV} {R : RA} (h : ArH H n a s fv (arnOf R)) (ok : RaOk R) (hl : R.len ≤ 1000000) :
    HCalls Try.prog 73 [.ptr a 4 0 0] H n fun r H' n' => r = .sc (.int .i32 (raAlloc R).2) ∧ ArTo H n a s fv H' n' (arnOf (raAlloc R).1) := by
  have hlen := ra_len ok
  have := cArAlloc h (arOk_of ok) (by omega)
  rwa [(arAlloc_of ok).1] at this
theorem ArTo.new {H H' : AH} {n n' a s : Nat} {fv : AV} {A' : AR} {x : Option AO} (h : ArTo (upd H n x) (n + 1) a s fv H' n' A') : ArTo H n a s fv H' n' A' := by
  obtain ⟨le, keep, s', fv', h1, h2⟩ := h
  refine ⟨by omega, fun j hj ho => (keep j (by omega) ho).trans (upd_ne _ _ (by omega)), s', fv', h1, fun j hj => ?_⟩
  rcases h2 j hj with h | h
  · exact .inl h
  · exact .inr (by omega)
theorem ArTo.setR {H : AH} {n a s : Nat} {fv : AV} {R : RA} (h : ArH H n a s fv (arnOf R)) (ok : RaOk R) (i : Int) (x : Nd) : ArTo H n a s fv (setH H n s (arnOf (raSet R i x).1) x) (n + 1) (arnOf (raSet R i x).1) := by
  refine ⟨by omega, fun j hj ho => ?_, s, fv, h.setR ok i x, fun j hj => .inl hj⟩
  have : ¬ j = s := fun e => ho (.inr (.inl e))
  unfold Al.setH
  rw [upd_ne _ _ this, upd_ne _ _ (by omega)]
theorem raDo_len {R : RA} (ok : RaOk R) (x : AAct) : (raDo R x).1.ever ≤ R.ever + 1 ∧ (raDo R x).1.len ≤ max R.len (2 * (R.ever + 1)) := by
  have e0 := ok.e0
  have e1 := ok.e1
  unfold raDo
  split
  · unfold raAlloc
    split
    · unfold raSet
      split <;> simp only <;> omega
    · simp only
      split <;> omega
  · split
    · unfold raFree
      split <;> simp only <;> omega
    · unfold raSet
      split <;> simp only <;> omega
def raRun (c : Int) (l : List AAct) : RA := l.foldl (fun R a => (raDo R a).1) (raNew (1 + c.tmod 5))
theorem raRun_snoc (c : Int) (l : List AAct) (a : AAct) : raRun c (l ++ [a]) = (raDo (raRun c l) a).1 := by simp [raRun]
theorem raNew_small {c : Int} (h0 : 0 ≤ c.tmod 5) (h1 : c.tmod 5 < 5) : raNew (1 + c.tmod 5) = ⟨2 + c.tmod 5, 0, [], [nd0]⟩ := by
  unfold raNew
  have h2 : ¬ (1 : Int) > 1 + c.tmod 5 := by omega
  have h3 : ¬ (1048576 : Int) < 1 + c.tmod 5 := by omega
  rw [if_neg h2, if_neg h3]
  congr 1
  omega
theorem raRun_ok {c : Int} (h0 : 0 ≤ c.tmod 5) (h1 : c.tmod 5 < 5) : ∀ (l : List AAct), RaOk (raRun c l) ∧ (raRun c l).ever ≤ l.length ∧ (raRun c l).len ≤ 2 * l.length + 8 := by
  have gen : ∀ (l : List AAct) (R : RA) (k : Nat), RaOk R → R.ever ≤ k → R.len ≤ 2 * k + 8 → RaOk (l.foldl (fun R a => (raDo R a).1) R) ∧ (l.foldl (fun R a => (raDo R a).1) R).ever ≤ (k + l.length : Nat) ∧ (l.foldl (fun R a => (raDo R a).1) R).len ≤ 2 * (k + l.length : Nat) + 8 := by
    intro l
    induction l with
    | nil => intro R k h1 h2 h3; exact ⟨h1, by simpa using h2, by simpa using h3⟩
    | cons a l ih =>
      intro R k h1 h2 h3
      obtain ⟨k1, k2⟩ := raDo_len h1 a
      have := ih (raDo R a).1 (k + 1) (arDo_of h1 a).2 (by omega) (by omega)
      rw [List.length_cons, show k + (l.length + 1) = k + 1 + l.length by omega]
      exact this
  intro l
  have hn := raNew_small h0 h1
  have := gen l (raNew (1 + c.tmod 5)) 0 (arNew_of _).2 (by rw [hn]; show (0 : Int) ≤ _; omega) (by rw [hn]; show 2 + c.tmod 5 ≤ _; omega)
  rw [Nat.zero_add] at this
  exact this
end Go.Al
