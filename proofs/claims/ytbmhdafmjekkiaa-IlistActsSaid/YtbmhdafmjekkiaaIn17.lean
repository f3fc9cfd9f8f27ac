/- Lists of places: what a place's node has beside its list stays. Conditions: the numbers fit their kinds. -/
import Derived.Test.YtbmhdafmjekkiaaIn16
set_option linter.unusedVariables false
set_option linter.unusedSimpArgs false
set_option maxRecDepth 20000
set_option maxHeartbeats 1600000
-- axs, AThen, ABlock, dstsOk, AStep, callsF, AWant, aop, AS.ev, AS.put, upd, AS.bound, abin, aint, aload, astore, cellsAt, AV.cells, alen, elems, AV.int?, FPost, aresL, ares1, pack, afill, splice, Value.oneCell', Nat.reduceLT, Nat.reduceLeDiff, Nat.reduceEqDiff, Nat.reduceAdd, Nat.reduceMul, Nat.reduceSub, Nat.reduceBEq, Int.reduceLE, Int.reduceLT, Int.reduceToNat, Int.reduceNeg, Int.reduceEq, axt, ftK, ft3, pickP, AScope, AAll, pickQ, ftQ, inHeap, Nd.cells, tys: Nd.cells
-- NOIDS: noIdsE_I32, noIdsE_ND, noIdsE_LA
-- LENS: I32_len, ND_len, LA_len
namespace Go.Al
open Go.Proofs
structure LAct.Fits (a : LAct) : Prop where
  k0 : 0 ≤ a.kind
  k1 : a.kind < 256
  i : I32ok a.i
theorem lact_of {x : List Value} (h : FitK [some .u8, some .i64, some .i32] x) : ∃ a : LAct, a.Fits ∧ x.map AV.sc = a.cells := by
  simp only [FitK] at h
  obtain ⟨a, r, rfl, ha, b, r, rfl, hb, c, r, rfl, hc, rfl⟩ := h
  simp [Lit.wf, IntKind.min, IntKind.max, IntKind.signed, IntKind.bits] at ha hc
  exact ⟨⟨a, b, c⟩, ⟨ha.1, by show a < 256; omega, ⟨hc.1, by show c ≤ _; omega⟩⟩, rfl⟩
def LA (l : List LAct) : List (List AV) := l.map LAct.cells
theorem LA_len (l : List LAct) : (LA l).length = l.length := by simp [LA]
theorem LA_get {l : List LAct} {p : Nat} {x : LAct} (h : l[p]? = some x) : (LA l)[p]? = some [.sc (.int .u8 x.kind), .sc (.int .i64 x.tag), .sc (.int .i32 x.i)] := by simp [LA, h, LAct.cells]
theorem noIdsE_LA (l : List LAct) : noIdsE (LA l) = true := noIdsE_map _ (fun x => by simp [LAct.cells, noIdsL, noIds]) l
theorem rows_LA {es : List (List Value)} (h : ∀ x ∈ es, FitK [some .u8, some .i64, some .i32] x) : ∃ l : List LAct, (es.map fun e => e.map AV.sc) = LA l ∧ (∀ a ∈ l, a.Fits) ∧ l.length = es.length :=
  rows_of LAct.cells LAct.Fits (fun x hx => lact_of hx) h
theorem wfu8' {n : Int} (h : (Lit.int .u8 n).wf = true) : 0 ≤ n ∧ n < 256 := by
  simp [Lit.wf, IntKind.min, IntKind.max, IntKind.signed, IntKind.bits] at h
  omega
theorem lsK_small {c : Int} (h0 : 0 ≤ c) : (lsK (1 + c.tmod 3) : Int) = 1 + c.tmod 3 ∧ lsK (1 + c.tmod 3) ≤ 3 := by
  have h2 := Int.tmod_nonneg 3 h0
  have h3 := Int.tmod_lt_of_pos c (show (0 : Int) < 3 by omega)
  unfold lsK
  have a1 : ¬ (1 : Int) > 1 + c.tmod 3 := by omega
  have a2 : ¬ (8 : Int) < 1 + c.tmod 3 := by omega
  rw [if_neg a1, if_neg a2]
  omega
/-- What the laws keep: the lists lie, they are lists, the arena is what it was. -/
structure Run (H : AH) (n L r a s : Nat) (fv : AV) (k : Nat) (R : RA) (rows : List Rw) (ls : List (List Int)) : Prop where
  h : LsH H n L r a s fv R rows
  inv : LInv R rows ls
  len : ls.length = k
  same : Same raQ R
theorem Run.ever {H : AH} {n L r a s k : Nat} {fv : AV} {R : RA} {rows : List Rw} {ls : List (List Int)} (u : Run H n L r a s fv k R rows ls) : R.ever = 6 := by rw [u.same.ever]; exact raQ_eq.1
theorem Run.fine {H : AH} {n L r a s k : Nat} {fv : AV} {R : RA} {rows : List Rw} {ls : List (List Int)} (u : Run H n L r a s fv k R rows ls) (hk : k ≤ 3) {i : Int} (hi : I32ok i) : Fine R rows i := u.inv.fine (by rw [u.len]; omega) (by rw [u.ever]; omega) i hi
theorem Run.fine2 {H : AH} {n L r a s k : Nat} {fv : AV} {R : RA} {rows : List Rw} {ls : List (List Int)} (u : Run H n L r a s fv k R rows ls) (hk : k ≤ 3) {i j : Int} (hi : I32ok i) : Fine (offS R rows j).1 (offS R rows j).2 i := by
  obtain ⟨l1, e1, h1⟩ := u.inv.some_off j
  exact h1.fine (by rw [e1, u.len]; omega) (by rw [(Same.offS u.inv.ok rows j).ever, u.ever]; omega) i hi
theorem Run.do {H H' : AH} {n n' L r a s k : Nat} {fv : AV} {R : RA} {rows : List Rw} {ls : List (List Int)} (u : Run H n L r a s fv k R rows ls) (x : LAct) (to : LsTo H n L r a s fv H' n' (doS R rows x).1 (doS R rows x).2) :
    ∃ ls', Run H' n' L r a s fv k (doS R rows x).1 (doS R rows x).2 ls' := by
  have h := to.ls
  revert h
  unfold doS
  split
  · obtain ⟨l1, e1, h1⟩ := (u.inv.some_lay x.tag x.i).1
    exact fun h => ⟨l1, h, h1, e1.trans u.len, u.same.trans (Same.layS u.inv.ok _ _ _ _ _)⟩
  · split
    · obtain ⟨l1, e1, h1⟩ := (u.inv.some_lay x.tag x.i).2
      exact fun h => ⟨l1, h, h1, e1.trans u.len, u.same.trans (Same.layS u.inv.ok _ _ _ _ _)⟩
    · split
      · obtain ⟨l1, e1, h1⟩ := u.inv.some_off x.i
        exact fun h => ⟨l1, h, h1, e1.trans u.len, u.same.trans (Same.offS u.inv.ok _ _)⟩
      · obtain ⟨l1, e1, h1⟩ := u.inv.some_mv x.tag x.i
        obtain ⟨l2, e2, h2⟩ := u.inv.some_off x.i
        exact fun h => ⟨l1, h, h1, e1.trans u.len, u.same.trans (Same.mvS u.inv.ok _ _ _ h2.ok)⟩
theorem Run.new {H : AH} {n L r a s k : Nat} {fv : AV} {R : RA} {rows : List Rw} {ls : List (List Int)} {x : Option AO} (u : Run H n L r a s fv k R rows ls) : Run (upd H n x) (n + 1) L r a s fv k R rows ls := ⟨u.h.new, u.inv, u.len, u.same⟩
theorem Run.new2 {H : AH} {n L r a s k : Nat} {fv : AV} {R : RA} {rows : List Rw} {ls : List (List Int)} {x y : Option AO} (u : Run H n L r a s fv k R rows ls) : Run (upd (upd H n x) n y) (n + 1) L r a s fv k R rows ls := by rw [upd_upd]; exact u.new
def lenR (rows : List Rw) (t : Int) : Int := if 0 ≤ t ∧ t < rows.length then (rows.getD t.toNat r0).n else 0
def manyR (rows : List Rw) : Nat → Int
  | 0 => 0
  | p + 1 => manyR rows p + lenR rows p
theorem Run.lenR {H : AH} {n L r a s k : Nat} {fv : AV} {R : RA} {rows : List Rw} {ls : List (List Int)} (u : Run H n L r a s fv k R rows ls) (t : Nat) : lenR rows t = ((ls.getD t []).length : Int) := by
  unfold Al.lenR
  by_cases h : t < rows.length
  · obtain ⟨l, hl, hr⟩ := u.inv.at h
    rw [if_pos ⟨by omega, by omega⟩, Int.toNat_natCast, hr, List.getD_eq_getElem?_getD, hl]
    rfl
  · rw [if_neg (by omega), List.getD_eq_getElem?_getD, List.getElem?_eq_none (by rw [← u.inv.len]; omega)]
    rfl
theorem Run.many {H : AH} {n L r a s k : Nat} {fv : AV} {R : RA} {rows : List Rw} {ls : List (List Int)} (u : Run H n L r a s fv k R rows ls) (hk : k ≤ 3) : manyR rows 3 = (cntT R 6 : Int) ∧ ∀ p, p ≤ 3 → 0 ≤ manyR rows p ∧ manyR rows p ≤ 6 := by
  have h := cntT_all u.inv (by rw [u.len]; exact hk) (m := 6) (by rw [u.ever]; rfl)
  have hle := cntT_le R 6
  have e : ∀ p : Nat, Al.lenR rows (p : Int) = _ := u.lenR
  have e0 := e 0
  have e1 := e 1
  have e2 := e 2
  have m1 : manyR rows 1 = manyR rows 0 + Al.lenR rows (0 : Nat) := rfl
  have m2 : manyR rows 2 = manyR rows 1 + Al.lenR rows (1 : Nat) := rfl
  have m3 : manyR rows 3 = manyR rows 2 + Al.lenR rows (2 : Nat) := rfl
  have m0 : manyR rows 0 = 0 := rfl
  refine ⟨by omega, fun p hp => ?_⟩
  rcases (show p = 0 ∨ p = 1 ∨ p = 2 ∨ p = 3 by omega) with rfl | rfl | rfl | rfl <;> omega
theorem Run.node {H : AH} {n L r a s k : Nat} {fv : AV} {R : RA} {rows : List Rw} {ls : List (List Int)} (u : Run H n L r a s fv k R rows ls) (p : Nat) (hp : p < 6) (h3 : p ≠ 3) : (raAt R ((p : Int) + 1)).key = 10 * p ∧ (raAt R ((p : Int) + 1)).val = p ∧ (raAt R ((p : Int) + 1)).flag = p := by
  obtain ⟨_, _, q1, q2, q3, _, q5, q6⟩ := raQ_eq
  obtain ⟨h1, h2, h4⟩ := u.same.kvf ((p : Int) + 1)
  rw [h1, h2, h4]
  rcases (show p = 0 ∨ p = 1 ∨ p = 2 ∨ p = 4 ∨ p = 5 by omega) with rfl | rfl | rfl | rfl | rfl
  · show (raAt raQ 1).key = _ ∧ (raAt raQ 1).val = _ ∧ (raAt raQ 1).flag = _
    rw [q1]; decide
  · show (raAt raQ 2).key = _ ∧ (raAt raQ 2).val = _ ∧ (raAt raQ 2).flag = _
    rw [q2]; decide
  · show (raAt raQ 3).key = _ ∧ (raAt raQ 3).val = _ ∧ (raAt raQ 3).flag = _
    rw [q3]; decide
  · show (raAt raQ 5).key = _ ∧ (raAt raQ 5).val = _ ∧ (raAt raQ 5).flag = _
    rw [q5]; decide
  · show (raAt raQ 6).key = _ ∧ (raAt raQ 6).val = _ ∧ (raAt raQ 6).flag = _
    rw [q6]; decide
theorem Run.four {H : AH} {n L r a s k : Nat} {fv : AV} {R : RA} {rows : List Rw} {ls : List (List Int)} (u : Run H n L r a s fv k R rows ls) : (raAt R 4).tag = 0 := by
  have h : raIs R 4 = false := by rw [u.same.is]; decide
  unfold raAt
  rw [h]; rfl
theorem law_IlistKeeps (c : Int) (w : (Lit.int .u8 c).wf = true) (e : List (List Value)) (f : ∀ x ∈ e, FitK [some .u8, some .i64, some .i32] x) : PCalls Try.prog 3 [.sc (.int .u8 c), .lst 3 (e.map fun e => e.map .sc)] (.sc (.bool true)) := by
  obtain ⟨l, hl, hf, _⟩ := rows_LA f
  obtain ⟨h0, h1⟩ := wfu8' w
  obtain ⟨_, hk⟩ := lsK_small h0
  rw [hl]
  refine PCalls.intro2 Try.func3 rfl rfl Try.ntmps3 Try.results3 (by simp) fun n => ?_; simp (maxSteps := 400000) (dsimp := false) only [axs, AThen, ABlock, dstsOk, AStep, callsF, AWant, aop, AS.ev, AS.put, upd, AS.bound, abin, aint, aload, astore, cellsAt, AV.cells, alen, elems, AV.int?, FPost, aresL, ares1, pack, afill, splice, Value.oneCell', Nat.reduceLT, Nat.reduceLeDiff, Nat.reduceEqDiff, Nat.reduceAdd, Nat.reduceMul, Nat.reduceSub, Nat.reduceBEq, Int.reduceLE, Int.reduceLT, Int.reduceToNat, Int.reduceNeg, Int.reduceEq, axt, ftK, ft3, pickP, AScope, AAll, pickQ, ftQ, inHeap, Nd.cells, tys]
  refine ACallK.strict rfl (awake04) (by simp only [SeesL, LA_len, axs, axt, AS.ev, AS.put, upd, inHeap, Nat.reduceLT, Nat.reduceEqDiff, Nat.reduceAdd, Nat.reduceBEq, Nd.cells]; repeat' (first | exact True.intro | exact Sees.sc | exact Sees.none | ((with_reducible refine Sees.same ?_) <;> simp [noIds, noIdsL, noIdsE, noIdsE_U, noIdsE_UU, noIdsE_I32, noIdsE_ND, noIdsE_LA] <;> fail) | (refine Live.sees ?_ ?_ <;> first | assumption | (simp [noIdsE_U, noIdsE_UU, noIdsE_I32, noIdsE_ND, noIdsE_LA] <;> fail)) | (refine Sees.obj ?_ ?_ ?_ <;> first | exact ⟨_, _, by assumption, rfl⟩ | (simp [U_len, UU_len, I32_len, ND_len, LA_len] <;> fail) | (simp [noIdsE_U, noIdsE_UU, noIdsE_I32, noIdsE_ND, noIdsE_LA] <;> fail) | (simp [U, UU, upd] <;> fail) | (simp [U, UU, upd, neS, *] <;> fail)) | (refine Sees.of_seen 3 ?_ <;> simp [seen, upd, noIdsE, noIdsL, noIds, U, UU, Nat.add_assoc] <;> fail) | refine Sees.agg ?_ | refine And.intro ?_ ?_ | simp only [SeesL])) ?_; simp (maxSteps := 400000) (dsimp := false) only [LA_len, axs, AThen, ABlock, dstsOk, AStep, callsF, AWant, aop, AS.ev, AS.put, upd, AS.bound, abin, aint, aload, astore, cellsAt, AV.cells, alen, elems, AV.int?, FPost, aresL, ares1, pack, afill, splice, Value.oneCell', Nat.reduceLT, Nat.reduceLeDiff, Nat.reduceEqDiff, Nat.reduceAdd, Nat.reduceMul, Nat.reduceSub, Nat.reduceBEq, Int.reduceLE, Int.reduceLT, Int.reduceToNat, Int.reduceNeg, Int.reduceEq, axt, ftK, ft3, pickP, AScope, AAll, pickQ, ftQ, inHeap, Nd.cells, tys]
  by_cases h : l.length ≤ 40
  · have h' : ¬ (l.length : Int) > 40 := by omega
    simp (maxSteps := 400000) (dsimp := false) only [h', axs, AThen, ABlock, dstsOk, AStep, callsF, AWant, aop, AS.ev, AS.put, upd, AS.bound, abin, aint, aload, astore, cellsAt, AV.cells, alen, elems, AV.int?, FPost, aresL, ares1, pack, afill, splice, Value.oneCell', Nat.reduceLT, Nat.reduceLeDiff, Nat.reduceEqDiff, Nat.reduceAdd, Nat.reduceMul, Nat.reduceSub, Nat.reduceBEq, Int.reduceLE, Int.reduceLT, Int.reduceToNat, Int.reduceNeg, Int.reduceEq, axt, ftK, ft3, pickP, AScope, AAll, pickQ, ftQ, inHeap, Nd.cells, tys]
    refine ACallK.heap _ rfl (cLsBegin c h0 h1 _ _) ?_
    rintro v H1 n1 ⟨a, s, L, r, fv, rfl, hle, hkeep, hL⟩
    have u0 : Run H1 n1 L r a s fv (lsK (1 + c.tmod 3)) raQ (List.replicate (lsK (1 + c.tmod 3)) r0) (List.replicate (lsK (1 + c.tmod 3)) []) := ⟨hL, LInv.new raQ_ok (by decide) _, by simp, Same.refl _⟩
    generalize lsK (1 + c.tmod 3) = k at *
    simp (maxSteps := 400000) (dsimp := false) only [LV, axs, AThen, ABlock, dstsOk, AStep, callsF, AWant, aop, AS.ev, AS.put, upd, AS.bound, abin, aint, aload, astore, cellsAt, AV.cells, alen, elems, AV.int?, FPost, aresL, ares1, pack, afill, splice, Value.oneCell', Nat.reduceLT, Nat.reduceLeDiff, Nat.reduceEqDiff, Nat.reduceAdd, Nat.reduceMul, Nat.reduceSub, Nat.reduceBEq, Int.reduceLE, Int.reduceLT, Int.reduceToNat, Int.reduceNeg, Int.reduceEq, axt, ftK, ft3, pickP, AScope, AAll, pickQ, ftQ, inHeap, Nd.cells, tys]
    refine ALoop.upto l.length (fun p t => t.t 1 = .lst 3 (LA l) ∧ t.t 5 = .sc (.bool true) ∧ t.t 6 = .ptr a 4 0 0 ∧ t.t 7 = .ptr L 2 0 0 ∧ t.t 9 = .sc (.int .i64 p) ∧ ∃ R rows ls, Run t.H t.n L r a s fv k R rows ls) ⟨rfl, rfl, rfl, rfl, rfl, raQ, List.replicate k r0, List.replicate k [], u0.new2⟩ ?_
    · rintro p st hp hb ⟨e1, e5, e6, e7, e9, R, rows, ls, u⟩
      rcases Nat.lt_or_ge p l.length with hlt | hge
      · obtain ⟨x, hx, hp0, hpl, hw, hT, hD⟩ := idx hlt (by omega)
        have hg := LA_get hx
        have hxf := hf x (List.mem_of_getElem? hx)
        simp (maxSteps := 400000) (dsimp := false) only [e1, e5, e6, e7, e9, hpl, LA_len, hg, hp0, axs, AThen, ABlock, dstsOk, AStep, callsF, AWant, aop, AS.ev, AS.put, upd, AS.bound, abin, aint, aload, astore, cellsAt, AV.cells, alen, elems, AV.int?, FPost, aresL, ares1, pack, afill, splice, Value.oneCell', Nat.reduceLT, Nat.reduceLeDiff, Nat.reduceEqDiff, Nat.reduceAdd, Nat.reduceMul, Nat.reduceSub, Nat.reduceBEq, Int.reduceLE, Int.reduceLT, Int.reduceToNat, Int.reduceNeg, Int.reduceEq, axt, ftK, ft3, pickP, AScope, AAll, pickQ, ftQ, inHeap, Nd.cells, tys]
        refine ACallK.heap _ rfl (cLsDo u.h x (u.fine hk hxf.i) (u.fine2 hk hxf.i)) ?_
        rintro v H2 n2 ⟨rfl, to⟩
        have to : LsTo st.H st.n L r a s fv H2 n2 (doS R rows x).1 (doS R rows x).2 := to
        obtain ⟨ls2, u2⟩ := u.do x to
        simp (maxSteps := 400000) (dsimp := false) only [e1, e5, e6, e7, e9, hw, axs, AThen, ABlock, dstsOk, AStep, callsF, AWant, aop, AS.ev, AS.put, upd, AS.bound, abin, aint, aload, astore, cellsAt, AV.cells, alen, elems, AV.int?, FPost, aresL, ares1, pack, afill, splice, Value.oneCell', Nat.reduceLT, Nat.reduceLeDiff, Nat.reduceEqDiff, Nat.reduceAdd, Nat.reduceMul, Nat.reduceSub, Nat.reduceBEq, Int.reduceLE, Int.reduceLT, Int.reduceToNat, Int.reduceNeg, Int.reduceEq, axt, ftK, ft3, pickP, AScope, AAll, pickQ, ftQ, inHeap, Nd.cells, tys]
        exact ⟨hlt, _, _, _, u2⟩
      · have hpl : ¬ (p : Int) < l.length := by omega
        obtain ⟨hm3, hmp⟩ := u.many hk
        simp (maxSteps := 400000) (dsimp := false) only [e1, e5, e6, e7, e9, hpl, LA_len, axs, AThen, ABlock, dstsOk, AStep, callsF, AWant, aop, AS.ev, AS.put, upd, AS.bound, abin, aint, aload, astore, cellsAt, AV.cells, alen, elems, AV.int?, FPost, aresL, ares1, pack, afill, splice, Value.oneCell', Nat.reduceLT, Nat.reduceLeDiff, Nat.reduceEqDiff, Nat.reduceAdd, Nat.reduceMul, Nat.reduceSub, Nat.reduceBEq, Int.reduceLE, Int.reduceLT, Int.reduceToNat, Int.reduceNeg, Int.reduceEq, axt, ftK, ft3, pickP, AScope, AAll, pickQ, ftQ, inHeap, Nd.cells, tys]
        refine ALoop.upto 3 (fun p t => t.t 5 = .sc (.bool true) ∧ t.t 6 = .ptr a 4 0 0 ∧ t.t 7 = .ptr L 2 0 0 ∧ t.t 10 = .sc (.int .i64 (manyR rows p)) ∧ t.t 11 = .sc (.int .i64 p) ∧ Run t.H t.n L r a s fv k R rows ls) ⟨e5, e6, e7, rfl, rfl, u⟩ ?_
        rintro p2 st2 hp2 hb2 ⟨f5, f6, f7, f10, f11, u⟩
        rcases Nat.lt_or_ge p2 3 with hlt2 | hge2
        · have hpl2 : (p2 : Int) < 3 := by omega
          have cl : HCalls Try.prog 11 [.ptr L 2 0 0, .sc (.int .i64 p2)] st2.H st2.n fun v H' n' => v = .sc (.int .i64 (lenR rows p2)) ∧ H' = st2.H ∧ n' = st2.n := cLsLen u.h p2
          have e2 : manyR rows p2 + lenR rows p2 = manyR rows (p2 + 1) := rfl
          have hb1 := hmp (p2 + 1) (by omega)
          have w1 : IntKind.i64.wrap (manyR rows (p2 + 1)) = manyR rows (p2 + 1) := IntWalk.i64_in _ ⟨by omega, by omega⟩
          have w2 : IntKind.i64.wrap ((p2 : Int) + 1) = p2 + 1 := IntWalk.i64_in _ ⟨by omega, by omega⟩
          simp (maxSteps := 400000) (dsimp := false) only [f5, f6, f7, f10, f11, hpl2, axs, AThen, ABlock, dstsOk, AStep, callsF, AWant, aop, AS.ev, AS.put, upd, AS.bound, abin, aint, aload, astore, cellsAt, AV.cells, alen, elems, AV.int?, FPost, aresL, ares1, pack, afill, splice, Value.oneCell', Nat.reduceLT, Nat.reduceLeDiff, Nat.reduceEqDiff, Nat.reduceAdd, Nat.reduceMul, Nat.reduceSub, Nat.reduceBEq, Int.reduceLE, Int.reduceLT, Int.reduceToNat, Int.reduceNeg, Int.reduceEq, axt, ftK, ft3, pickP, AScope, AAll, pickQ, ftQ, inHeap, Nd.cells, tys]
          refine ACallK.heap _ rfl (cl) ?_; rintro r' H' n' ⟨rfl, eH, en⟩; obtain rfl := eH.symm; obtain rfl := en.symm; clear eH en; simp (maxSteps := 400000) (dsimp := false) only [f5, f6, f7, f10, f11, e2, w1, w2, axs, AThen, ABlock, dstsOk, AStep, callsF, AWant, aop, AS.ev, AS.put, upd, AS.bound, abin, aint, aload, astore, cellsAt, AV.cells, alen, elems, AV.int?, FPost, aresL, ares1, pack, afill, splice, Value.oneCell', Nat.reduceLT, Nat.reduceLeDiff, Nat.reduceEqDiff, Nat.reduceAdd, Nat.reduceMul, Nat.reduceSub, Nat.reduceBEq, Int.reduceLE, Int.reduceLT, Int.reduceToNat, Int.reduceNeg, Int.reduceEq, axt, ftK, ft3, pickP, AScope, AAll, pickQ, ftQ, inHeap, Nd.cells, tys]
          exact ⟨hlt2, by simp, u⟩
        · have hpl2 : ¬ (p2 : Int) < 3 := by omega
          have hp3 : p2 = 3 := by omega
          subst hp3
          simp (maxSteps := 400000) (dsimp := false) only [f5, f6, f7, f10, f11, hpl2, axs, AThen, ABlock, dstsOk, AStep, callsF, AWant, aop, AS.ev, AS.put, upd, AS.bound, abin, aint, aload, astore, cellsAt, AV.cells, alen, elems, AV.int?, FPost, aresL, ares1, pack, afill, splice, Value.oneCell', Nat.reduceLT, Nat.reduceLeDiff, Nat.reduceEqDiff, Nat.reduceAdd, Nat.reduceMul, Nat.reduceSub, Nat.reduceBEq, Int.reduceLE, Int.reduceLT, Int.reduceToNat, Int.reduceNeg, Int.reduceEq, axt, ftK, ft3, pickP, AScope, AAll, pickQ, ftQ, inHeap, Nd.cells, tys]
          refine ALoop.upto 6 (fun p t => t.t 5 = .sc (.bool true) ∧ t.t 6 = .ptr a 4 0 0 ∧ t.t 7 = .ptr L 2 0 0 ∧ t.t 10 = .sc (.int .i64 (manyR rows 3)) ∧ t.t 12 = .sc (.int .i64 (cntT R p)) ∧ t.t 13 = .sc (.int .i32 ((p : Int) + 1)) ∧ Run t.H t.n L r a s fv k R rows ls) ⟨f5, f6, f7, f10, rfl, rfl, u⟩ ?_
          rintro p3 st3 hp3 hb3 ⟨g5, g6, g7, g10, g12, g13, u⟩
          have ok := u.inv.ok
          rcases Nat.lt_or_ge p3 6 with hlt3 | hge3
          · have hpl3 : (p3 : Int) + 1 < 7 := by omega
            have hi : I32ok ((p3 : Int) + 1) := ⟨by omega, by omega⟩
            have hfi := u.fine hk hi
            have u2 := u.new (x := some (.obj 41 6 [(raAt R ((p3 : Int) + 1)).cells] false))
            have hcnt := cntT_succ R p3
            have hcl := cntT_le R p3
            have w1 : IntKind.i32.wrap ((p3 : Int) + 1 + 1) = (p3 : Int) + 1 + 1 := IntWalk.i32_in _ ⟨by omega, by omega⟩
            have w2 : IntKind.i64.wrap ((cntT R p3 : Int) + 1) = (cntT R p3 : Int) + 1 := IntWalk.i64_in _ ⟨by omega, by omega⟩
            have w3 : IntKind.i32.wrap ((p3 : Int) + 1 - 1) = p3 := by rw [IntWalk.i32_in _ ⟨by omega, by omega⟩]; omega
            have w4 : IntKind.i32.wrap (10 * (p3 : Int)) = 10 * p3 := IntWalk.i32_in _ ⟨by omega, by omega⟩
            have w5 : IntKind.u64.wrap (10 * (p3 : Int)) = 10 * p3 := IntWalk.u64_in _ ⟨by omega, by omega⟩
            have w6 : IntKind.u64.wrap (p3 : Int) = p3 := IntWalk.u64_in _ ⟨by omega, by omega⟩
            have w7 : IntKind.i64.wrap (p3 : Int) = p3 := IntWalk.i64_in _ ⟨by omega, by omega⟩
            have u4 := u2.new2 (x := some (.obj 41 6 [nd0.cells] false)) (y := some (.obj 41 6 [(raAt R ((p3 : Int) + 1)).cells] false))
            have ct := cLsTag u4.h ok ((p3 : Int) + 1) hi hfi.t0 hfi.t1
            have fin : ∀ st : AS, True := fun _ => trivial
            by_cases h3 : p3 = 3
            · have h4 : (p3 : Int) + 1 = 4 := by omega
              have htg : ¬ (raAt R ((p3 : Int) + 1)).tag - 1 ≥ 0 := by rw [h4, u.four]; omega
              have htg2 : ¬ 0 < (raAt R ((p3 : Int) + 1)).tag := by omega
              rw [if_neg htg2] at hcnt
              have hcnt : cntT R (p3 + 1) = cntT R p3 := by omega
              simp (maxSteps := 400000) (dsimp := false) only [g5, g6, g7, g10, g12, g13, hpl3, axs, AThen, ABlock, dstsOk, AStep, callsF, AWant, aop, AS.ev, AS.put, upd, AS.bound, abin, aint, aload, astore, cellsAt, AV.cells, alen, elems, AV.int?, FPost, aresL, ares1, pack, afill, splice, Value.oneCell', Nat.reduceLT, Nat.reduceLeDiff, Nat.reduceEqDiff, Nat.reduceAdd, Nat.reduceMul, Nat.reduceSub, Nat.reduceBEq, Int.reduceLE, Int.reduceLT, Int.reduceToNat, Int.reduceNeg, Int.reduceEq, axt, ftK, ft3, pickP, AScope, AAll, pickQ, ftQ, inHeap, Nd.cells, tys]
              refine ACallK.heap _ rfl (cRAt u.h.ar ok ((p3 : Int) + 1) hi) ?_; rintro r' H' n' ⟨rfl, eH, en⟩; obtain rfl := eH.symm; obtain rfl := en.symm; clear eH en; simp (maxSteps := 400000) (dsimp := false) only [g5, g6, g7, g10, g12, g13, eq_true h4, axs, AThen, ABlock, dstsOk, AStep, callsF, AWant, aop, AS.ev, AS.put, upd, AS.bound, abin, aint, aload, astore, cellsAt, AV.cells, alen, elems, AV.int?, FPost, aresL, ares1, pack, afill, splice, Value.oneCell', Nat.reduceLT, Nat.reduceLeDiff, Nat.reduceEqDiff, Nat.reduceAdd, Nat.reduceMul, Nat.reduceSub, Nat.reduceBEq, Int.reduceLE, Int.reduceLT, Int.reduceToNat, Int.reduceNeg, Int.reduceEq, axt, ftK, ft3, pickP, AScope, AAll, pickQ, ftQ, inHeap, Nd.cells, tys]
              refine ACallK.heap _ rfl (ct) ?_; rintro r' H' n' ⟨rfl, eH, en⟩; obtain rfl := eH.symm; obtain rfl := en.symm; clear eH en; simp (maxSteps := 400000) (dsimp := false) only [g5, g6, g7, g10, g12, g13, htg, w1, axs, AThen, ABlock, dstsOk, AStep, callsF, AWant, aop, AS.ev, AS.put, upd, AS.bound, abin, aint, aload, astore, cellsAt, AV.cells, alen, elems, AV.int?, FPost, aresL, ares1, pack, afill, splice, Value.oneCell', Nat.reduceLT, Nat.reduceLeDiff, Nat.reduceEqDiff, Nat.reduceAdd, Nat.reduceMul, Nat.reduceSub, Nat.reduceBEq, Int.reduceLE, Int.reduceLT, Int.reduceToNat, Int.reduceNeg, Int.reduceEq, axt, ftK, ft3, pickP, AScope, AAll, pickQ, ftQ, inHeap, Nd.cells, tys]
              exact ⟨hlt3, by rw [hcnt], rfl, (u.new.new2).new⟩
            · have h4 : ¬ (p3 : Int) + 1 = 4 := by omega
              obtain ⟨y1, y2, y3⟩ := u.node p3 hlt3 h3
              have hcells : (raAt R ((p3 : Int) + 1)).cells = [.sc (.int .u64 (10 * (p3 : Int))), .sc (.int .u64 p3), .sc (.int .i64 p3), .sc (.int .i64 (raAt R ((p3 : Int) + 1)).tag), .sc (.int .i32 (raAt R ((p3 : Int) + 1)).prev), .sc (.int .i32 (raAt R ((p3 : Int) + 1)).next)] := by unfold Nd.cells; rw [y1, y2, y3]
              have cr := cRAt u.h.ar ok ((p3 : Int) + 1) hi
              rw [hcells] at cr ct
              by_cases htg : 0 < (raAt R ((p3 : Int) + 1)).tag
              · have htg2 : (raAt R ((p3 : Int) + 1)).tag - 1 ≥ 0 := by omega
                rw [if_pos htg] at hcnt
                have hcnt : (cntT R p3 : Int) + 1 = (cntT R (p3 + 1) : Int) := by omega
                rw [hcnt] at w2
                simp (maxSteps := 400000) (dsimp := false) only [g5, g6, g7, g10, g12, g13, hpl3, axs, AThen, ABlock, dstsOk, AStep, callsF, AWant, aop, AS.ev, AS.put, upd, AS.bound, abin, aint, aload, astore, cellsAt, AV.cells, alen, elems, AV.int?, FPost, aresL, ares1, pack, afill, splice, Value.oneCell', Nat.reduceLT, Nat.reduceLeDiff, Nat.reduceEqDiff, Nat.reduceAdd, Nat.reduceMul, Nat.reduceSub, Nat.reduceBEq, Int.reduceLE, Int.reduceLT, Int.reduceToNat, Int.reduceNeg, Int.reduceEq, axt, ftK, ft3, pickP, AScope, AAll, pickQ, ftQ, inHeap, Nd.cells, tys]
                refine ACallK.heap _ rfl (cr) ?_; rintro r' H' n' ⟨rfl, eH, en⟩; obtain rfl := eH.symm; obtain rfl := en.symm; clear eH en; simp (maxSteps := 400000) (dsimp := false) only [g5, g6, g7, g10, g12, g13, h4, w3, w4, w5, w6, w7, bne_self_eq_false, axs, AThen, ABlock, dstsOk, AStep, callsF, AWant, aop, AS.ev, AS.put, upd, AS.bound, abin, aint, aload, astore, cellsAt, AV.cells, alen, elems, AV.int?, FPost, aresL, ares1, pack, afill, splice, Value.oneCell', Nat.reduceLT, Nat.reduceLeDiff, Nat.reduceEqDiff, Nat.reduceAdd, Nat.reduceMul, Nat.reduceSub, Nat.reduceBEq, Int.reduceLE, Int.reduceLT, Int.reduceToNat, Int.reduceNeg, Int.reduceEq, axt, ftK, ft3, pickP, AScope, AAll, pickQ, ftQ, inHeap, Nd.cells, tys]
                refine ACallK.heap _ rfl (ct) ?_; rintro r' H' n' ⟨rfl, eH, en⟩; obtain rfl := eH.symm; obtain rfl := en.symm; clear eH en; simp (maxSteps := 400000) (dsimp := false) only [g5, g6, g7, g10, g12, g13, htg2, w1, w2, hcnt, axs, AThen, ABlock, dstsOk, AStep, callsF, AWant, aop, AS.ev, AS.put, upd, AS.bound, abin, aint, aload, astore, cellsAt, AV.cells, alen, elems, AV.int?, FPost, aresL, ares1, pack, afill, splice, Value.oneCell', Nat.reduceLT, Nat.reduceLeDiff, Nat.reduceEqDiff, Nat.reduceAdd, Nat.reduceMul, Nat.reduceSub, Nat.reduceBEq, Int.reduceLE, Int.reduceLT, Int.reduceToNat, Int.reduceNeg, Int.reduceEq, axt, ftK, ft3, pickP, AScope, AAll, pickQ, ftQ, inHeap, Nd.cells, tys]
                exact ⟨hlt3, rfl, (u.new.new2).new⟩
              · have htg2 : ¬ (raAt R ((p3 : Int) + 1)).tag - 1 ≥ 0 := by omega
                rw [if_neg htg] at hcnt
                have hcnt : cntT R (p3 + 1) = cntT R p3 := by omega
                simp (maxSteps := 400000) (dsimp := false) only [g5, g6, g7, g10, g12, g13, hpl3, axs, AThen, ABlock, dstsOk, AStep, callsF, AWant, aop, AS.ev, AS.put, upd, AS.bound, abin, aint, aload, astore, cellsAt, AV.cells, alen, elems, AV.int?, FPost, aresL, ares1, pack, afill, splice, Value.oneCell', Nat.reduceLT, Nat.reduceLeDiff, Nat.reduceEqDiff, Nat.reduceAdd, Nat.reduceMul, Nat.reduceSub, Nat.reduceBEq, Int.reduceLE, Int.reduceLT, Int.reduceToNat, Int.reduceNeg, Int.reduceEq, axt, ftK, ft3, pickP, AScope, AAll, pickQ, ftQ, inHeap, Nd.cells, tys]
                refine ACallK.heap _ rfl (cr) ?_; rintro r' H' n' ⟨rfl, eH, en⟩; obtain rfl := eH.symm; obtain rfl := en.symm; clear eH en; simp (maxSteps := 400000) (dsimp := false) only [g5, g6, g7, g10, g12, g13, h4, w3, w4, w5, w6, w7, bne_self_eq_false, axs, AThen, ABlock, dstsOk, AStep, callsF, AWant, aop, AS.ev, AS.put, upd, AS.bound, abin, aint, aload, astore, cellsAt, AV.cells, alen, elems, AV.int?, FPost, aresL, ares1, pack, afill, splice, Value.oneCell', Nat.reduceLT, Nat.reduceLeDiff, Nat.reduceEqDiff, Nat.reduceAdd, Nat.reduceMul, Nat.reduceSub, Nat.reduceBEq, Int.reduceLE, Int.reduceLT, Int.reduceToNat, Int.reduceNeg, Int.reduceEq, axt, ftK, ft3, pickP, AScope, AAll, pickQ, ftQ, inHeap, Nd.cells, tys]
                refine ACallK.heap _ rfl (ct) ?_; rintro r' H' n' ⟨rfl, eH, en⟩; obtain rfl := eH.symm; obtain rfl := en.symm; clear eH en; simp (maxSteps := 400000) (dsimp := false) only [g5, g6, g7, g10, g12, g13, htg2, w1, axs, AThen, ABlock, dstsOk, AStep, callsF, AWant, aop, AS.ev, AS.put, upd, AS.bound, abin, aint, aload, astore, cellsAt, AV.cells, alen, elems, AV.int?, FPost, aresL, ares1, pack, afill, splice, Value.oneCell', Nat.reduceLT, Nat.reduceLeDiff, Nat.reduceEqDiff, Nat.reduceAdd, Nat.reduceMul, Nat.reduceSub, Nat.reduceBEq, Int.reduceLE, Int.reduceLT, Int.reduceToNat, Int.reduceNeg, Int.reduceEq, axt, ftK, ft3, pickP, AScope, AAll, pickQ, ftQ, inHeap, Nd.cells, tys]
                exact ⟨hlt3, by rw [hcnt], rfl, (u.new.new2).new⟩
          · have hpl3 : ¬ (p3 : Int) + 1 < 7 := by omega
            have hp6 : p3 = 6 := by omega
            subst hp6
            have h4 := u.four
            have ct := cLsTag u.h ok 4 ⟨by omega, by omega⟩ (by omega) (by omega)
            rw [h4] at ct
            have g13 : st3.t 13 = .sc (.int .i32 7) := g13
            have h77 : ¬ (7 : Int) < 7 := by omega
            have h01 : (0 : Int) - 1 = -1 := rfl
            rw [h01] at ct
            simp (maxSteps := 400000) (dsimp := false) only [g5, g6, g7, g10, g12, g13, h77, hm3, axs, AThen, ABlock, dstsOk, AStep, callsF, AWant, aop, AS.ev, AS.put, upd, AS.bound, abin, aint, aload, astore, cellsAt, AV.cells, alen, elems, AV.int?, FPost, aresL, ares1, pack, afill, splice, Value.oneCell', Nat.reduceLT, Nat.reduceLeDiff, Nat.reduceEqDiff, Nat.reduceAdd, Nat.reduceMul, Nat.reduceSub, Nat.reduceBEq, Int.reduceLE, Int.reduceLT, Int.reduceToNat, Int.reduceNeg, Int.reduceEq, axt, ftK, ft3, pickP, AScope, AAll, pickQ, ftQ, inHeap, Nd.cells, tys]
            refine ACallK.heap _ rfl (ct) ?_; rintro r' H' n' ⟨rfl, eH, en⟩; obtain rfl := eH.symm; obtain rfl := en.symm; clear eH en; simp (maxSteps := 400000) (dsimp := false) only [axs, AThen, ABlock, dstsOk, AStep, callsF, AWant, aop, AS.ev, AS.put, upd, AS.bound, abin, aint, aload, astore, cellsAt, AV.cells, alen, elems, AV.int?, FPost, aresL, ares1, pack, afill, splice, Value.oneCell', Nat.reduceLT, Nat.reduceLeDiff, Nat.reduceEqDiff, Nat.reduceAdd, Nat.reduceMul, Nat.reduceSub, Nat.reduceBEq, Int.reduceLE, Int.reduceLT, Int.reduceToNat, Int.reduceNeg, Int.reduceEq, axt, ftK, ft3, pickP, AScope, AAll, pickQ, ftQ, inHeap, Nd.cells, tys]
            exact ⟨_, rfl, Sees.sc⟩
  · have h' : (l.length : Int) > 40 := by omega
    simp (maxSteps := 400000) (dsimp := false) only [h', axs, AThen, ABlock, dstsOk, AStep, callsF, AWant, aop, AS.ev, AS.put, upd, AS.bound, abin, aint, aload, astore, cellsAt, AV.cells, alen, elems, AV.int?, FPost, aresL, ares1, pack, afill, splice, Value.oneCell', Nat.reduceLT, Nat.reduceLeDiff, Nat.reduceEqDiff, Nat.reduceAdd, Nat.reduceMul, Nat.reduceSub, Nat.reduceBEq, Int.reduceLE, Int.reduceLT, Int.reduceToNat, Int.reduceNeg, Int.reduceEq, axt, ftK, ft3, pickP, AScope, AAll, pickQ, ftQ, inHeap, Nd.cells, tys]
    exact ⟨_, rfl, Sees.sc⟩
end Go.Al
