/- Keys in queues: a new store. Conditions: none. -/
import Derived.Test.YtdebjhjnpomlmaaSt7
set_option linter.unusedVariables false
set_option linter.unusedSimpArgs false
set_option maxRecDepth 20000
set_option maxHeartbeats 1600000
-- axs, AThen, ABlock, dstsOk, AStep, callsF, AWant, aop, AS.ev, AS.put, upd, AS.bound, abin, aint, aload, astore, cellsAt, AV.cells, alen, elems, AV.int?, FPost, aresL, ares1, pack, afill, splice, Value.oneCell', Nat.reduceLT, Nat.reduceLeDiff, Nat.reduceEqDiff, Nat.reduceAdd, Nat.reduceMul, Nat.reduceSub, Nat.reduceBEq, Int.reduceLE, Int.reduceLT, Int.reduceToNat, Int.reduceNeg, Int.reduceEq, axt, ftK, ft3, pickP, AScope, AAll, pickQ, ftQ, inHeap, Nd.cells, tys: Nd.cells
namespace Go.Al
open Go.Proofs
theorem zeroAt {R : RA} (h : ∀ x ∈ R.nodes, x.tag = 0 ∧ x.prev = 0 ∧ x.next = 0) (i : Int) : (raAt R i).tag = 0 ∧ (raAt R i).prev = 0 ∧ (raAt R i).next = 0 := by
  unfold raAt
  split
  · rw [List.getD_eq_getElem?_getD]
    cases e : R.nodes[i.toNat]? with
    | none => exact ⟨rfl, rfl, rfl⟩
    | some x => exact h x (List.mem_of_getElem? e)
  · exact ⟨rfl, rfl, rfl⟩
theorem rep_get {α : Type} {m t : Nat} {x y : α} (h : (List.replicate m x)[t]? = some y) : y = x := by
  have := List.mem_of_getElem? h
  exact (List.mem_replicate.1 this).2
theorem LInv.new {R : RA} (ok : RaOk R) (h : ∀ x ∈ R.nodes, x.tag = 0 ∧ x.prev = 0 ∧ x.next = 0) (m : Nat) : LInv R (List.replicate m r0) (List.replicate m []) := by
  refine ⟨ok, by simp, ?_, ?_, ?_, ?_, ?_, fun i _ => zeroAt h i⟩
  · intro t l hl
    have hlt := (List.getElem?_eq_some_iff.1 hl).1
    rw [rep_get hl]
    simp at hlt
    simp [hlt, r0]
  · intro t l hl i hi; rw [rep_get hl] at hi; cases hi
  · intro t l hl; rw [rep_get hl]; exact List.nodup_nil
  · intro t u l m hl hm i hi; rw [rep_get hl] at hi; cases hi
  · intro t l hl p i hp; rw [rep_get hl] at hp; cases hp
def lsK (tags : Int) : Nat := (if 8 < (if 1 > tags then 1 else tags) then (8 : Int) else (if 1 > tags then 1 else tags)).toNat
theorem lsK_rng (tags : Int) : (if 8 < (if 1 > tags then 1 else tags) then (8 : Int) else (if 1 > tags then 1 else tags)) = (lsK tags : Int) ∧ 1 ≤ lsK tags ∧ lsK tags ≤ 8 := by
  unfold lsK
  by_cases h : 1 > tags <;> simp [h] <;> (try split) <;> omega
theorem cLsNew (a : Nat) (tags : Int) (H : AH) (n : Nat) :
    HCalls Try.prog 33 [.ptr a 4 0 0, .sc (.int .i64 tags)] H n fun v H' n' => v = .ptr (n + 1) 2 0 0 ∧ H' = upd (upd H n (some (.obj 122 3 (RW (List.replicate (lsK tags) r0)) false))) (n + 1) (some (.obj 103 2 [[.ptr a 4 0 0, .sl n 3 0 (lsK tags)]] false)) ∧ n' = n + 1 + 1 := by
  obtain ⟨hqe, q1, q2⟩ := lsK_rng tags
  generalize lsK tags = m at *
  have b1 : (0 : Int) ≤ (m : Int) := by omega
  have b2 : (m : Int) * 16 ≤ 140737488355328 := by omega
  have b3 : (m : Int) ≤ 1099511627776 := by omega
  have hrep := RW_rep m
  refine HCalls.walk Try.func33 rfl rfl Try.ntmps33 Try.results33 (by simp) ?_; simp (maxSteps := 400000) (dsimp := false) only [hqe, b1, b2, b3, hrep, axs, AThen, ABlock, dstsOk, AStep, callsF, AWant, aop, AS.ev, AS.put, upd, AS.bound, abin, aint, aload, astore, cellsAt, AV.cells, alen, elems, AV.int?, FPost, aresL, ares1, pack, afill, splice, Value.oneCell', Nat.reduceLT, Nat.reduceLeDiff, Nat.reduceEqDiff, Nat.reduceAdd, Nat.reduceMul, Nat.reduceSub, Nat.reduceBEq, Int.reduceLE, Int.reduceLT, Int.reduceToNat, Int.reduceNeg, Int.reduceEq, axt, ftK, ft3, pickP, AScope, AAll, pickQ, ftQ, inHeap, Nd.cells, tys]
  exact ⟨_, rfl, rfl⟩
theorem newLs {H : AH} {n a s : Nat} {fv : AV} {R : RA} (h : ArH H n a s fv (arnOf R)) (k : Nat) :
    LsH (upd (upd H n (some (.obj 122 3 (RW (List.replicate k r0)) false))) (n + 1) (some (.obj 103 2 [[.ptr a 4 0 0, .sl n 3 0 k]] false))) (n + 1 + 1) (n + 1) n a s fv R (List.replicate k r0) := by
  refine ⟨by rw [upd_same]; simp, by rw [upd_ne _ _ (by omega), upd_same], h.new.new, by omega, by omega, fun ho => ?_, fun ho => ?_⟩
  · have : n + 1 < n := by
      rcases ho with e | e | ⟨m, e⟩
      · have := h.la; omega
      · have := h.ls; omega
      · exact h.lf _ _ e
    omega
  · have : n < n := by
      rcases ho with e | e | ⟨m, e⟩
      · have := h.la; omega
      · have := h.ls; omega
      · exact h.lf _ _ e
    omega
theorem LsH.keeps {H H' : AH} {n n' L r a s : Nat} {fv : AV} {R : RA} {rows : List Rw} (h : LsH H n L r a s fv R rows) (k : Keeps H n H' n') : LsH H' n' L r a s fv R rows :=
  ⟨(k.2 L h.lL).trans h.hL, (k.2 r h.lr).trans h.hr, h.ar.keep k.1 fun j hj _ => k.2 j hj, Nat.lt_of_lt_of_le h.lL k.1, Nat.lt_of_lt_of_le h.lr k.1, h.nL, h.nr⟩
def newS (q : Int) : SS := ⟨raNew 7, List.replicate (lsK q) r0, List.replicate (lsK q) [], List.replicate 8 z3⟩
theorem raNew_no (room i : Int) : raIs (raNew room) i = false := by
  unfold raIs raNew
  simp
theorem raNew7 : raNew 7 = ⟨8, 0, [], [nd0]⟩ := by simp [raNew]
theorem tot_rep (k : Nat) : tot (List.replicate k []) = 0 := by
  induction k with
  | zero => rfl
  | succ k ih => rw [List.replicate_succ]; simp [tot]
theorem newS_ok (q : Int) : SB (newS q) 0 := by
  obtain ⟨_, q1, q2⟩ := lsK_rng q
  have hno : ∀ i, ¬ raIs (newS q).R i = true := fun i h => by
    have := raNew_no 7 i
    rw [show (newS q).R = raNew 7 from rfl, this] at h
    cases h
  refine ⟨⟨LInv.new (arNew_of 7).2 (by rw [raNew7]; simp [nd0]) _, empty_ok, Emp.rep 8, fun k i => ⟨fun h => absurd h (empty_mem _ _), fun h => absurd h.1 (hno i)⟩, fun i h => absurd h (hno i)⟩, by show (List.replicate _ _).length ≤ 8; simp; exact q2, ?_, ?_, ?_, ?_, ?_, .inl (by show (List.replicate 8 z3).length = 8; simp)⟩
  · show cnt (List.replicate 8 z3) = tot (List.replicate _ _)
    rw [empty_cnt, tot_rep]
  · show (raNew 7).ever = (raNew 7).freed.length + (tot (List.replicate _ _) : Nat)
    rw [raNew7, tot_rep]; rfl
  · show (raNew 7).ever ≤ _
    rw [raNew7]; decide
  · show (raNew 7).len ≤ _
    rw [raNew7]; decide
  · show _ ≤ (raNew 7).len
    rw [raNew7]; decide
theorem cStNew (q : Int) (H : AH) (n : Nat) : HCalls Try.prog 9 [.sc (.int .i64 q)] H n fun v H' n' => ∃ S L r a s ta ts fv, v = .ptr S 4 0 0 ∧ n ≤ S ∧ StL H' n' S L r a s ta ts fv (newS q) ∧ Keeps H n H' n' := by
  obtain ⟨hqe, q1, q2⟩ := lsK_rng q
  refine HCalls.walk Try.func9 rfl rfl Try.ntmps9 Try.results9 (by simp) ?_; simp (maxSteps := 400000) (dsimp := false) only [axs, AThen, ABlock, dstsOk, AStep, callsF, AWant, aop, AS.ev, AS.put, upd, AS.bound, abin, aint, aload, astore, cellsAt, AV.cells, alen, elems, AV.int?, FPost, aresL, ares1, pack, afill, splice, Value.oneCell', Nat.reduceLT, Nat.reduceLeDiff, Nat.reduceEqDiff, Nat.reduceAdd, Nat.reduceMul, Nat.reduceSub, Nat.reduceBEq, Int.reduceLE, Int.reduceLT, Int.reduceToNat, Int.reduceNeg, Int.reduceEq, axt, ftK, ft3, pickP, AScope, AAll, pickQ, ftQ, inHeap, Nd.cells, tys]
  refine ACallK.heap _ rfl (cArNew 7 _ _) ?_; rintro r' H' n' ⟨rfl, eH, en⟩; obtain rfl := eH.symm; obtain rfl := en.symm; clear eH en; simp (maxSteps := 400000) (dsimp := false) only [axs, AThen, ABlock, dstsOk, AStep, callsF, AWant, aop, AS.ev, AS.put, upd, AS.bound, abin, aint, aload, astore, cellsAt, AV.cells, alen, elems, AV.int?, FPost, aresL, ares1, pack, afill, splice, Value.oneCell', Nat.reduceLT, Nat.reduceLeDiff, Nat.reduceEqDiff, Nat.reduceAdd, Nat.reduceMul, Nat.reduceSub, Nat.reduceBEq, Int.reduceLE, Int.reduceLT, Int.reduceToNat, Int.reduceNeg, Int.reduceEq, axt, ftK, ft3, pickP, AScope, AAll, pickQ, ftQ, inHeap, Nd.cells, tys]
  have h0 : ArH (upd (upd H n (some (.obj 115 7 (SL (arNew 7).slots) false))) (n + 1) (some (.obj 100 4 [[.sl n 7 0 (arNew 7).slots.length, .sc (.slice none 0 0), .sc (.int .i64 1), .sc (.int .i64 0)]] false))) (n + 1 + 1) (n + 1) n (.sc (.slice none 0 0)) (arnOf (raNew 7)) := by
    have := arNew_H 7 H n
    rw [(arNew_of 7).1] at this
    exact this
  refine ACallK.heap _ rfl (cLsNew (n + 1) q _ _) ?_
  rintro v H1 n1 ⟨rfl, rfl, rfl⟩
  have h1 := newLs h0 (lsK q)
  simp (maxSteps := 400000) (dsimp := false) only [axs, AThen, ABlock, dstsOk, AStep, callsF, AWant, aop, AS.ev, AS.put, upd, AS.bound, abin, aint, aload, astore, cellsAt, AV.cells, alen, elems, AV.int?, FPost, aresL, ares1, pack, afill, splice, Value.oneCell', Nat.reduceLT, Nat.reduceLeDiff, Nat.reduceEqDiff, Nat.reduceAdd, Nat.reduceMul, Nat.reduceSub, Nat.reduceBEq, Int.reduceLE, Int.reduceLT, Int.reduceToNat, Int.reduceNeg, Int.reduceEq, axt, ftK, ft3, pickP, AScope, AAll, pickQ, ftQ, inHeap, Nd.cells, tys]
  refine ACallK.heap _ rfl (cHtNew _ _) ?_
  rintro v H2 n2 ⟨rfl, rfl, rfl⟩
  have h2 := LsH.keeps h1 (newH_keeps _ _)
  have h3 := newH_is (upd (upd (upd (upd H n (some (.obj 115 7 (SL (arNew 7).slots) false))) (n + 1) (some (.obj 100 4 [[.sl n 7 0 (arNew 7).slots.length, .sc (.slice none 0 0), .sc (.int .i64 1), .sc (.int .i64 0)]] false))) (n + 1 + 1) (some (.obj 122 3 (RW (List.replicate (lsK q) r0)) false))) (n + 1 + 1 + 1) (some (.obj 103 2 [[.ptr (n + 1) 4 0 0, .sl (n + 1 + 1) 3 0 (lsK q)]] false))) (n + 1 + 1 + 1 + 1)
  have kp := ((Keeps.refl H n).upd (x := some (.obj 115 7 (SL (arNew 7).slots) false))).upd (x := some (.obj 100 4 [[.sl n 7 0 (arNew 7).slots.length, .sc (.slice none 0 0), .sc (.int .i64 1), .sc (.int .i64 0)]] false))
  have kp1 := (kp.upd (x := some (.obj 122 3 (RW (List.replicate (lsK q) r0)) false))).upd (x := some (.obj 103 2 [[.ptr (n + 1) 4 0 0, .sl (n + 1 + 1) 3 0 (lsK q)]] false))
  have kp2 := kp1.trans (newH_keeps _ _)
  generalize hH : newH _ _ = H2 at *
  simp (maxSteps := 400000) (dsimp := false) only [hqe, axs, AThen, ABlock, dstsOk, AStep, callsF, AWant, aop, AS.ev, AS.put, upd, AS.bound, abin, aint, aload, astore, cellsAt, AV.cells, alen, elems, AV.int?, FPost, aresL, ares1, pack, afill, splice, Value.oneCell', Nat.reduceLT, Nat.reduceLeDiff, Nat.reduceEqDiff, Nat.reduceAdd, Nat.reduceMul, Nat.reduceSub, Nat.reduceBEq, Int.reduceLE, Int.reduceLT, Int.reduceToNat, Int.reduceNeg, Int.reduceEq, axt, ftK, ft3, pickP, AScope, AAll, pickQ, ftQ, inHeap, Nd.cells, tys]
  have kk := Keeps.refl H2 (n + 1 + 1 + 1 + 1 + 1 + 1)
  refine ⟨_, rfl, n + 1 + 1 + 1 + 1 + 1 + 1, n + 1 + 1 + 1, n + 1 + 1, n + 1, n, n + 1 + 1 + 1 + 1 + 1, n + 1 + 1 + 1 + 1, .sc (.slice none 0 0), rfl, by omega, ⟨?_, h2.keeps kk.upd, h3.keeps kk.upd, by omega⟩, kp2.upd⟩
  rw [upd_same]
  simp [newS]
end Go.Al
