/- Lists of places: all of a list are gone through from both ends alike. Conditions: the numbers fit their kinds. -/
import Derived.Test.YtbmhdafmjekkiaaIz6
set_option linter.unusedVariables false
set_option linter.unusedSimpArgs false
set_option maxRecDepth 20000
set_option maxHeartbeats 9600000
-- axs, AThen, ABlock, dstsOk, AStep, callsF, AWant, aop, AS.ev, AS.put, upd, AS.bound, abin, aint, aload, astore, cellsAt, AV.cells, alen, elems, AV.int?, FPost, aresL, ares1, pack, afill, splice, Value.oneCell', Nat.reduceLT, Nat.reduceLeDiff, Nat.reduceEqDiff, Nat.reduceAdd, Nat.reduceMul, Nat.reduceSub, Nat.reduceBEq, Int.reduceLE, Int.reduceLT, Int.reduceToNat, Int.reduceNeg, Int.reduceEq, axt, ftK, ft3, pickP, AScope, AAll, pickQ, ftQ, inHeap, Nd.cells, tys: Nd.cells
-- NOIDS: noIdsE_I32, noIdsE_ND, noIdsE_LA
-- LENS: I32_len, ND_len, LA_len
namespace Go.Al
open Go.Proofs
theorem Run.back {H : AH} {n L r a s k : Nat} {fv : AV} {R : RA} {rows : List Rw} {ls : List (List Int)} (u : Run H n L r a s fv k R rows ls) (t : Nat) : backR rows t = prv (allL ls t) (allL ls t).length := by
  unfold backR
  by_cases h : t < rows.length
  · obtain ⟨l, hl, hr⟩ := u.inv.at h
    have hg : allL ls t = l := by unfold allL; rw [if_pos (by omega), Int.toNat_natCast, List.getD_eq_getElem?_getD, hl]; rfl
    rw [if_pos ⟨by omega, by omega⟩, Int.toNat_natCast, hr, hg]
    show l.getLastD 0 = _
    unfold prv
    rw [lastD_get]
    split
    · rename_i h0; rw [List.length_eq_zero_iff.1 h0]; rfl
    · rfl
  · have hg : allL ls t = [] := by unfold allL; rw [if_pos (by omega), Int.toNat_natCast, List.getD_eq_getElem?_getD, List.getElem?_eq_none (by rw [← u.inv.len]; omega)]; rfl
    rw [if_neg (by omega), hg]; rfl
theorem Run.in_all {H : AH} {n L r a s k : Nat} {fv : AV} {R : RA} {rows : List Rw} {ls : List (List Int)} (u : Run H n L r a s fv k R rows ls) (t : Nat) {p : Nat} {x : Int} (hp : (allL ls t)[p]? = some x) : I32ok x ∧ (raAt R x).tag = (t : Int) + 1 ∧ (raAt R x).prev = prv (allL ls t) p ∧ (raAt R x).next = nxt (allL ls t) p := by
  rcases allL_get (ls := ls) (t := (t : Int)) with h | ⟨_, h⟩
  · rw [h] at hp; simp at hp
  · rw [Int.toNat_natCast] at h
    have hx := List.mem_of_getElem? hp
    have := ra_rng u.inv.ok (u.inv.live _ _ h x hx)
    have he := u.ever
    obtain ⟨n1, n2, n3⟩ := u.inv.node _ _ h p x hp
    exact ⟨⟨by omega, by omega⟩, n1, n2, n3⟩
theorem Run.all_len {H : AH} {n L r a s k : Nat} {fv : AV} {R : RA} {rows : List Rw} {ls : List (List Int)} (u : Run H n L r a s fv k R rows ls) (t : Int) : (allL ls t).length ≤ 6 := by
  rcases allL_get (ls := ls) (t := t) with h | ⟨_, h⟩
  · rw [h]; simp
  · have he := u.ever
    have := pigeon 6 (allL ls t) (u.inv.one _ _ h) (fun k hk => by have := ra_rng u.inv.ok (u.inv.live _ _ h k hk); omega)
    exact this
theorem law_IlistRound (c : Int) (w : (Lit.int .u8 c).wf = true) (e : List (List Value)) (f : ∀ x ∈ e, FitK [some .u8, some .i64, some .i32] x) : PCalls Try.prog 7 [.sc (.int .u8 c), .lst 3 (e.map fun e => e.map .sc)] (.sc (.bool true)) := by
  obtain ⟨l, hl, hf, _⟩ := rows_LA f
  obtain ⟨h0, h1⟩ := wfu8' w
  obtain ⟨_, hk⟩ := lsK_small h0
  rw [hl]
  refine PCalls.intro2 Try.func7 rfl rfl Try.ntmps7 Try.results7 (by simp) fun n => ?_; simp (maxSteps := 400000) (dsimp := false) only [axs, AThen, ABlock, dstsOk, AStep, callsF, AWant, aop, AS.ev, AS.put, upd, AS.bound, abin, aint, aload, astore, cellsAt, AV.cells, alen, elems, AV.int?, FPost, aresL, ares1, pack, afill, splice, Value.oneCell', Nat.reduceLT, Nat.reduceLeDiff, Nat.reduceEqDiff, Nat.reduceAdd, Nat.reduceMul, Nat.reduceSub, Nat.reduceBEq, Int.reduceLE, Int.reduceLT, Int.reduceToNat, Int.reduceNeg, Int.reduceEq, axt, ftK, ft3, pickP, AScope, AAll, pickQ, ftQ, inHeap, Nd.cells, tys]
  refine ACallK.strict rfl (awake04) (by simp only [SeesL, LA_len, axs, axt, AS.ev, AS.put, upd, inHeap, Nat.reduceLT, Nat.reduceEqDiff, Nat.reduceAdd, Nat.reduceBEq, Nd.cells]; repeat' (first | exact True.intro | exact Sees.sc | exact Sees.none | ((with_reducible refine Sees.same ?_) <;> simp [noIds, noIdsL, noIdsE, noIdsE_U, noIdsE_UU, noIdsE_I32, noIdsE_ND, noIdsE_LA] <;> fail) | (refine Live.sees ?_ ?_ <;> first | assumption | (simp [noIdsE_U, noIdsE_UU, noIdsE_I32, noIdsE_ND, noIdsE_LA] <;> fail)) | (refine Sees.obj ?_ ?_ ?_ <;> first | exact ⟨_, _, by assumption, rfl⟩ | (simp [U_len, UU_len, I32_len, ND_len, LA_len] <;> fail) | (simp [noIdsE_U, noIdsE_UU, noIdsE_I32, noIdsE_ND, noIdsE_LA] <;> fail) | (simp [U, UU, upd] <;> fail) | (simp [U, UU, upd, neS, *] <;> fail)) | (refine Sees.of_seen 3 ?_ <;> simp [seen, upd, noIdsE, noIdsL, noIds, U, UU, Nat.add_assoc] <;> fail) | refine Sees.agg ?_ | refine And.intro ?_ ?_ | simp only [SeesL])) ?_; simp (maxSteps := 400000) (dsimp := false) only [LA_len, axs, AThen, ABlock, dstsOk, AStep, callsF, AWant, aop, AS.ev, AS.put, upd, AS.bound, abin, aint, aload, astore, cellsAt, AV.cells, alen, elems, AV.int?, FPost, aresL, ares1, pack, afill, splice, Value.oneCell', Nat.reduceLT, Nat.reduceLeDiff, Nat.reduceEqDiff, Nat.reduceAdd, Nat.reduceMul, Nat.reduceSub, Nat.reduceBEq, Int.reduceLE, Int.reduceLT, Int.reduceToNat, Int.reduceNeg, Int.reduceEq, axt, ftK, ft3, pickP, AScope, AAll, pickQ, ftQ, inHeap, Nd.cells, tys]
  by_cases h : l.length ≤ 40
  · have h' : ¬ (l.length : Int) > 40 := by omega
    simp (maxSteps := 400000) (dsimp := false) only [h', axs, AThen, ABlock, dstsOk, AStep, callsF, AWant, aop, AS.ev, AS.put, upd, AS.bound, abin, aint, aload, astore, cellsAt, AV.cells, alen, elems, AV.int?, FPost, aresL, ares1, pack, afill, splice, Value.oneCell', Nat.reduceLT, Nat.reduceLeDiff, Nat.reduceEqDiff, Nat.reduceAdd, Nat.reduceMul, Nat.reduceSub, Nat.reduceBEq, Int.reduceLE, Int.reduceLT, Int.reduceToNat, Int.reduceNeg, Int.reduceEq, axt, ftK, ft3, pickP, AScope, AAll, pickQ, ftQ, inHeap, Nd.cells, tys]
    refine ACallK.heap _ rfl (cLsBegin c h0 h1 _ _) ?_
    rintro v H1 n1 ⟨a, s, L, r, fv, rfl, hle, hkeep, hL⟩
    have u0 : Run H1 n1 L r a s fv (lsK (1 + c.tmod 3)) raQ (List.replicate (lsK (1 + c.tmod 3)) r0) (List.replicate (lsK (1 + c.tmod 3)) []) := ⟨hL, LInv.new raQ_ok (by decide) _, by simp, Same.refl _⟩
    generalize lsK (1 + c.tmod 3) = k at *
    simp (maxSteps := 400000) (dsimp := false) only [LV, axs, AThen, ABlock, dstsOk, AStep, callsF, AWant, aop, AS.ev, AS.put, upd, AS.bound, abin, aint, aload, astore, cellsAt, AV.cells, alen, elems, AV.int?, FPost, aresL, ares1, pack, afill, splice, Value.oneCell', Nat.reduceLT, Nat.reduceLeDiff, Nat.reduceEqDiff, Nat.reduceAdd, Nat.reduceMul, Nat.reduceSub, Nat.reduceBEq, Int.reduceLE, Int.reduceLT, Int.reduceToNat, Int.reduceNeg, Int.reduceEq, axt, ftK, ft3, pickP, AScope, AAll, pickQ, ftQ, inHeap, Nd.cells, tys]
    refine ALoop.upto l.length (fun p t => t.t 1 = .lst 3 (LA l) ∧ t.t 5 = .sc (.bool true) ∧ t.t 7 = .ptr L 2 0 0 ∧ t.t 9 = .sc (.int .i64 p) ∧ ∃ R rows ls, Run t.H t.n L r a s fv k R rows ls) ⟨rfl, rfl, rfl, rfl, raQ, List.replicate k r0, List.replicate k [], u0.new2⟩ ?_
    · rintro p st hp hb ⟨e1, e5, e7, e9, R, rows, ls, u⟩
      rcases Nat.lt_or_ge p l.length with hlt | hge
      · obtain ⟨x, hx, hp0, hpl, hw, hT, hD⟩ := idx hlt (by omega)
        have hg := LA_get hx
        have hxf := hf x (List.mem_of_getElem? hx)
        simp (maxSteps := 400000) (dsimp := false) only [e1, e5, e7, e9, hpl, LA_len, hg, hp0, axs, AThen, ABlock, dstsOk, AStep, callsF, AWant, aop, AS.ev, AS.put, upd, AS.bound, abin, aint, aload, astore, cellsAt, AV.cells, alen, elems, AV.int?, FPost, aresL, ares1, pack, afill, splice, Value.oneCell', Nat.reduceLT, Nat.reduceLeDiff, Nat.reduceEqDiff, Nat.reduceAdd, Nat.reduceMul, Nat.reduceSub, Nat.reduceBEq, Int.reduceLE, Int.reduceLT, Int.reduceToNat, Int.reduceNeg, Int.reduceEq, axt, ftK, ft3, pickP, AScope, AAll, pickQ, ftQ, inHeap, Nd.cells, tys]
        refine ACallK.heap _ rfl (cLsDo u.h x (u.fine hk hxf.i) (u.fine2 hk hxf.i)) ?_
        rintro v H2 n2 ⟨rfl, to⟩
        have to : LsTo st.H st.n L r a s fv H2 n2 (doS R rows x).1 (doS R rows x).2 := to
        obtain ⟨ls2, u2⟩ := u.do x to
        simp (maxSteps := 400000) (dsimp := false) only [e1, e5, e7, e9, hw, axs, AThen, ABlock, dstsOk, AStep, callsF, AWant, aop, AS.ev, AS.put, upd, AS.bound, abin, aint, aload, astore, cellsAt, AV.cells, alen, elems, AV.int?, FPost, aresL, ares1, pack, afill, splice, Value.oneCell', Nat.reduceLT, Nat.reduceLeDiff, Nat.reduceEqDiff, Nat.reduceAdd, Nat.reduceMul, Nat.reduceSub, Nat.reduceBEq, Int.reduceLE, Int.reduceLT, Int.reduceToNat, Int.reduceNeg, Int.reduceEq, axt, ftK, ft3, pickP, AScope, AAll, pickQ, ftQ, inHeap, Nd.cells, tys]
        exact ⟨hlt, _, _, _, u2⟩
      · have hpl : ¬ (p : Int) < l.length := by omega
        simp (maxSteps := 400000) (dsimp := false) only [e1, e5, e7, e9, hpl, LA_len, axs, AThen, ABlock, dstsOk, AStep, callsF, AWant, aop, AS.ev, AS.put, upd, AS.bound, abin, aint, aload, astore, cellsAt, AV.cells, alen, elems, AV.int?, FPost, aresL, ares1, pack, afill, splice, Value.oneCell', Nat.reduceLT, Nat.reduceLeDiff, Nat.reduceEqDiff, Nat.reduceAdd, Nat.reduceMul, Nat.reduceSub, Nat.reduceBEq, Int.reduceLE, Int.reduceLT, Int.reduceToNat, Int.reduceNeg, Int.reduceEq, axt, ftK, ft3, pickP, AScope, AAll, pickQ, ftQ, inHeap, Nd.cells, tys]
        refine ALoop.upto 3 (fun p t => t.t 5 = .sc (.bool true) ∧ t.t 7 = .ptr L 2 0 0 ∧ t.t 10 = .sc (.int .i64 p) ∧ Run t.H t.n L r a s fv k R rows ls) ⟨e5, e7, rfl, u⟩ ?_
        rintro p2 st2 hp2 hb2 ⟨f5, f7, f10, u⟩
        rcases Nat.lt_or_ge p2 3 with hlt2 | hge2
        · have hpl2 : (p2 : Int) < 3 := by omega
          have w2 : IntKind.i64.wrap ((p2 : Int) + 1) = p2 + 1 := IntWalk.i64_in _ ⟨by omega, by omega⟩
          have ca := cLsAll u.h u.inv (by rw [u.len]; omega) (by rw [u.ever]; omega) (p2 : Int)
          have cb : HCalls Try.prog 25 [.ptr L 2 0 0, .sc (.int .i64 p2)] st2.H st2.n fun v H' n' => v = .sc (.int .i32 (backR rows p2)) ∧ H' = st2.H ∧ n' = st2.n := cLsBack u.h p2
          rw [u.back p2] at cb
          have hin := fun p x => u.in_all p2 (p := p) (x := x)
          have hxl := u.all_len p2
          generalize allL ls p2 = xs at *
          have w3 : IntKind.i64.wrap ((xs.length : Int) - 1) = (xs.length : Int) - 1 := IntWalk.i64_in _ ⟨by omega, by omega⟩
          simp (maxSteps := 400000) (dsimp := false) only [f5, f7, f10, hpl2, axs, AThen, ABlock, dstsOk, AStep, callsF, AWant, aop, AS.ev, AS.put, upd, AS.bound, abin, aint, aload, astore, cellsAt, AV.cells, alen, elems, AV.int?, FPost, aresL, ares1, pack, afill, splice, Value.oneCell', Nat.reduceLT, Nat.reduceLeDiff, Nat.reduceEqDiff, Nat.reduceAdd, Nat.reduceMul, Nat.reduceSub, Nat.reduceBEq, Int.reduceLE, Int.reduceLT, Int.reduceToNat, Int.reduceNeg, Int.reduceEq, axt, ftK, ft3, pickP, AScope, AAll, pickQ, ftQ, inHeap, Nd.cells, tys]
          refine ACallK.heap _ rfl (ca) ?_; rintro r' H' n' ⟨rfl, eH, en⟩; obtain rfl := eH.symm; obtain rfl := en.symm; clear eH en; simp (maxSteps := 400000) (dsimp := false) only [f5, f7, f10, axs, AThen, ABlock, dstsOk, AStep, callsF, AWant, aop, AS.ev, AS.put, upd, AS.bound, abin, aint, aload, astore, cellsAt, AV.cells, alen, elems, AV.int?, FPost, aresL, ares1, pack, afill, splice, Value.oneCell', Nat.reduceLT, Nat.reduceLeDiff, Nat.reduceEqDiff, Nat.reduceAdd, Nat.reduceMul, Nat.reduceSub, Nat.reduceBEq, Int.reduceLE, Int.reduceLT, Int.reduceToNat, Int.reduceNeg, Int.reduceEq, axt, ftK, ft3, pickP, AScope, AAll, pickQ, ftQ, inHeap, Nd.cells, tys]
          refine ACallK.heap _ rfl (cb) ?_; rintro r' H' n' ⟨rfl, eH, en⟩; obtain rfl := eH.symm; obtain rfl := en.symm; clear eH en; simp (maxSteps := 400000) (dsimp := false) only [f5, f7, f10, I32_len, w3, axs, AThen, ABlock, dstsOk, AStep, callsF, AWant, aop, AS.ev, AS.put, upd, AS.bound, abin, aint, aload, astore, cellsAt, AV.cells, alen, elems, AV.int?, FPost, aresL, ares1, pack, afill, splice, Value.oneCell', Nat.reduceLT, Nat.reduceLeDiff, Nat.reduceEqDiff, Nat.reduceAdd, Nat.reduceMul, Nat.reduceSub, Nat.reduceBEq, Int.reduceLE, Int.reduceLT, Int.reduceToNat, Int.reduceNeg, Int.reduceEq, axt, ftK, ft3, pickP, AScope, AAll, pickQ, ftQ, inHeap, Nd.cells, tys]
          refine ALoop.upto xs.length (fun q t => t.t 5 = .sc (.bool true) ∧ t.t 7 = .ptr L 2 0 0 ∧ t.t 10 = .sc (.int .i64 p2) ∧ t.t 11 = .lst 1 (I32 xs) ∧ t.t 12 = .sc (.int .i32 (prv xs (xs.length - q))) ∧ t.t 13 = .sc (.int .i64 ((xs.length : Int) - 1 - q)) ∧ Run t.H t.n L r a s fv k R rows ls) ⟨f5, f7, f10, rfl, rfl, by show AV.sc (.int .i64 ((xs.length : Int) - 1)) = _; simp, u⟩ ?_
          rintro q st3 hq hb3 ⟨g5, g7, g10, g11, g12, g13, u⟩
          rcases Nat.lt_or_ge q xs.length with hlt3 | hge3
          · obtain ⟨j, hj⟩ : ∃ j : Nat, j = xs.length - 1 - q := ⟨_, rfl⟩
            have hj2 : (xs.length : Int) - 1 - q = (j : Int) := by omega
            have hj3 : xs.length - q = j + 1 := by omega
            have hj4 : xs.length - (q + 1) = j := by omega
            have hx : xs[j]? = some (xs.getD j 0) := get_some (by omega)
            have hp1 : prv xs (j + 1) = xs.getD j 0 := by unfold prv; rw [if_neg (by omega)]; rfl
            rw [hj2] at g13
            rw [hj3, hp1] at g12
            obtain ⟨hi, m1, m2, m3⟩ := hin j _ hx
            generalize xs.getD j 0 = x at *
            have hg := I32_get hx
            have j0 : (0 : Int) ≤ j := by omega
            have j1 : (j : Int) ≥ 0 := by omega
            have j2 : ((j : Int)).toNat = j := by omega
            have j3 : (j : Int) < xs.length := by omega
            have w4 : IntKind.i64.wrap ((j : Int) - 1) = (j : Int) - 1 := IntWalk.i64_in _ ⟨by omega, by omega⟩
            have fi := u.fine hk hi
            have ct := cLsTag u.h u.inv.ok x hi fi.t0 fi.t1
            have htg : (raAt R x).tag - 1 = (p2 : Int) := by omega
            rw [htg] at ct
            have u4 := u.new (x := some (.obj 41 6 [(raAt R x).cells] false))
            have cbe := cLsBefore u4.h u.inv.ok x hi fi.t0 fi.t1 (fun h0 => by omega)
            rw [m2] at cbe
            simp (maxSteps := 400000) (dsimp := false) only [g5, g7, g10, g11, g12, g13, j0, j1, j2, j3, hg, I32_len, bne_self_eq_false, axs, AThen, ABlock, dstsOk, AStep, callsF, AWant, aop, AS.ev, AS.put, upd, AS.bound, abin, aint, aload, astore, cellsAt, AV.cells, alen, elems, AV.int?, FPost, aresL, ares1, pack, afill, splice, Value.oneCell', Nat.reduceLT, Nat.reduceLeDiff, Nat.reduceEqDiff, Nat.reduceAdd, Nat.reduceMul, Nat.reduceSub, Nat.reduceBEq, Int.reduceLE, Int.reduceLT, Int.reduceToNat, Int.reduceNeg, Int.reduceEq, axt, ftK, ft3, pickP, AScope, AAll, pickQ, ftQ, inHeap, Nd.cells, tys]
            refine ACallK.heap _ rfl (ct) ?_; rintro r' H' n' ⟨rfl, eH, en⟩; obtain rfl := eH.symm; obtain rfl := en.symm; clear eH en; simp (maxSteps := 400000) (dsimp := false) only [g5, g7, g10, g11, g12, g13, bne_self_eq_false, axs, AThen, ABlock, dstsOk, AStep, callsF, AWant, aop, AS.ev, AS.put, upd, AS.bound, abin, aint, aload, astore, cellsAt, AV.cells, alen, elems, AV.int?, FPost, aresL, ares1, pack, afill, splice, Value.oneCell', Nat.reduceLT, Nat.reduceLeDiff, Nat.reduceEqDiff, Nat.reduceAdd, Nat.reduceMul, Nat.reduceSub, Nat.reduceBEq, Int.reduceLE, Int.reduceLT, Int.reduceToNat, Int.reduceNeg, Int.reduceEq, axt, ftK, ft3, pickP, AScope, AAll, pickQ, ftQ, inHeap, Nd.cells, tys]
            refine ACallK.heap _ rfl cbe ?_
            rintro v H5 n5 ⟨rfl, kp⟩
            simp (maxSteps := 400000) (dsimp := false) only [g5, g7, g10, g11, g12, g13, w4, axs, AThen, ABlock, dstsOk, AStep, callsF, AWant, aop, AS.ev, AS.put, upd, AS.bound, abin, aint, aload, astore, cellsAt, AV.cells, alen, elems, AV.int?, FPost, aresL, ares1, pack, afill, splice, Value.oneCell', Nat.reduceLT, Nat.reduceLeDiff, Nat.reduceEqDiff, Nat.reduceAdd, Nat.reduceMul, Nat.reduceSub, Nat.reduceBEq, Int.reduceLE, Int.reduceLT, Int.reduceToNat, Int.reduceNeg, Int.reduceEq, axt, ftK, ft3, pickP, AScope, AAll, pickQ, ftQ, inHeap, Nd.cells, tys]
            have u5 : Run H5 n5 L r a s fv k R rows ls := u4.keeps kp
            exact ⟨hlt3, by rw [hj4], by congr 2; omega, u5⟩
          · have hq2 : q = xs.length := by omega
            subst hq2
            have g13 : st3.t 13 = .sc (.int .i64 (-1)) := by rw [g13]; congr 2; omega
            have g12 : st3.t 12 = .sc (.int .i32 0) := by rw [g12]; simp [prv]
            have hm1 : ¬ (-1 : Int) ≥ 0 := by omega
            simp (maxSteps := 400000) (dsimp := false) only [g5, g7, g10, g11, g12, g13, hm1, w2, bne_self_eq_false, axs, AThen, ABlock, dstsOk, AStep, callsF, AWant, aop, AS.ev, AS.put, upd, AS.bound, abin, aint, aload, astore, cellsAt, AV.cells, alen, elems, AV.int?, FPost, aresL, ares1, pack, afill, splice, Value.oneCell', Nat.reduceLT, Nat.reduceLeDiff, Nat.reduceEqDiff, Nat.reduceAdd, Nat.reduceMul, Nat.reduceSub, Nat.reduceBEq, Int.reduceLE, Int.reduceLT, Int.reduceToNat, Int.reduceNeg, Int.reduceEq, axt, ftK, ft3, pickP, AScope, AAll, pickQ, ftQ, inHeap, Nd.cells, tys]
            exact ⟨hlt2, rfl, u⟩
        · have hpl2 : ¬ (p2 : Int) < 3 := by omega
          simp (maxSteps := 400000) (dsimp := false) only [f5, f7, f10, hpl2, axs, AThen, ABlock, dstsOk, AStep, callsF, AWant, aop, AS.ev, AS.put, upd, AS.bound, abin, aint, aload, astore, cellsAt, AV.cells, alen, elems, AV.int?, FPost, aresL, ares1, pack, afill, splice, Value.oneCell', Nat.reduceLT, Nat.reduceLeDiff, Nat.reduceEqDiff, Nat.reduceAdd, Nat.reduceMul, Nat.reduceSub, Nat.reduceBEq, Int.reduceLE, Int.reduceLT, Int.reduceToNat, Int.reduceNeg, Int.reduceEq, axt, ftK, ft3, pickP, AScope, AAll, pickQ, ftQ, inHeap, Nd.cells, tys]
          exact ⟨_, rfl, Sees.sc⟩
  · have h' : (l.length : Int) > 40 := by omega
    simp (maxSteps := 400000) (dsimp := false) only [h', axs, AThen, ABlock, dstsOk, AStep, callsF, AWant, aop, AS.ev, AS.put, upd, AS.bound, abin, aint, aload, astore, cellsAt, AV.cells, alen, elems, AV.int?, FPost, aresL, ares1, pack, afill, splice, Value.oneCell', Nat.reduceLT, Nat.reduceLeDiff, Nat.reduceEqDiff, Nat.reduceAdd, Nat.reduceMul, Nat.reduceSub, Nat.reduceBEq, Int.reduceLE, Int.reduceLT, Int.reduceToNat, Int.reduceNeg, Int.reduceEq, axt, ftK, ft3, pickP, AScope, AAll, pickQ, ftQ, inHeap, Nd.cells, tys]
    exact ⟨_, rfl, Sees.sc⟩
end Go.Al
