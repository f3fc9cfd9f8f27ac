/- The law 'LossySpoilt', as it is stated: the walk's answer is true for all arguments, laid as the row asks. Conditions: none beyond the statement's own. -/
import Derived.Test.YtkoimgeckkodhaaRows
import Derived.Test.YtkoimgeckkodhaaMl2
import Derived.WalkKit
import Derived.ProofKit
import Derived.OpenShut
import Derived.ShutString
import Derived.ChangeOld
import Derived.Below
import Derived.SizedLaws
namespace Go.Proofs.Ytkoimgeckkodhaa.lossySpoilt
open Go.ChangeShapes Go.WideShapes Go.ChangeAt Go.RowKit
open Go.ChangeMaps (open_string shut_string)
set_option linter.unusedVariables false
theorem own : ownKnob Try.prog.godebug = none := by kernel_rfl
theorem walk (w : World) (a0 : Int) (w0 : (Lit.int .u8 a0).wf = true) (v1 : Value) (e1 : List (List Value)) (f1 : ∀ x ∈ e1, Al.FitK [some .i64, some .u64, some .u64, some .i64] x) (r1 : ∀ (β : Nat → Nat) (n : Nat), Al.RepV w (fun _ _ => False) β n (.lst 4 (e1.map fun e => e.map .sc)) v1) (v2 : Value) (x2 : List Value) (f2 : Al.FitK [some .u8, some .u8] x2) (r2 : ∀ (β : Nat → Nat) (n : Nat), Al.RepV w (fun _ _ => False) β n (.agg (x2.map .sc)) v2) : Calls Try.prog 5 #[.int .u8 a0, v1, v2] w fun e w' => e = .returned (.bool true) ∧ Below w.heap.size w w' := by
  have h := (Al.law_LossySpoilt a0 w0 e1 f1 x2 f2).2 w (fun _ _ => False) (fun b => b) 0 [.int .u8 a0, v1, v2] (fun _ _ h => h.elim) (by simp only [Al.RepL]; exact ⟨_, _, rfl, by simp only [Al.RepV], _, _, rfl, r1 _ _, _, _, rfl, r2 _ _, rfl⟩)
  refine h.mono ?_
  rintro e w' ⟨v, rfl, hb, hv⟩
  have hv : v = .bool true := by simpa only [Al.RepV] using hv
  exact ⟨by rw [hv], hb⟩
theorem laidOut : laidOutB Try.prog = true := by kernel_rfl
set_option maxRecDepth 100000 in
theorem lifted (os : Os) (started : os.Started) (H : Type) (enc : TypeId × Value → H) :
    ReturnsInHanded {} Try.checked os 5 .any (Rows.lossySpoiltSpec.pre6 enc Try.prog Try.f5 Rows.lossySpoiltRow.domain false) (Rows.lossySpoiltSpec.post enc Try.prog Try.f5 false true false false) := by
  refine returnsInHanded_of_change_sized (C := Try.checked) own started (by kernel_rfl) Try.func5
    (ChangeSpec.witness6 (enc := enc) (C := Try.checked) false ⟨#[], #[.int .u8 0, .slice none 0 0, .agg #[.int .u8 0, .int .u8 0]], []⟩ 8 (by kernel_rfl) (by kernel_rfl) (by kernel_rfl) (by kernel_rfl)) ?_
  intro W base args ds gs before hval0 hW hcnd hsz0 _
  have hsz : (DataW.weightsEach Try.prog (Try.f5.params.toList ++ Rows.lossySpoiltSpec.plain.varTypes Try.prog) (ds ++ gs)).all (· ≤ reachBytes) = true := hsz0
  have hval : ∀ (j : Nat) t v, Try.f5.params[j]? = some t → args[j]? = some v → Value.okWide Try.prog W .any base t v := hval0
  have hW' := hW
  obtain ⟨p, q, hA0, hV, rfl, hfz, hnd⟩ := hW
  have hA : DataW.TrodAll enc Try.prog W 0 (fun _ => true) true Try.f5.params.toList args.toList ds p := hA0
  rw [Try.params5] at hA hval hsz
  obtain ⟨v0, vs0, d0, ds0, p0, q0, hargs, rfl, rfl, h0, r0⟩ := trodAll_cons hA
  obtain ⟨v1, vs1, d1, ds1, p1, q1, rfl, rfl, rfl, h1, r1⟩ := trodAll_cons r0
  obtain ⟨v2, vs2, d2, ds2, p2, q2, rfl, rfl, rfl, h2, r2⟩ := trodAll_cons r1
  obtain ⟨rfl, rfl, rfl⟩ := trodAll_nil r2
  obtain rfl : args = #[v0, v1, v2] := by cases args; simp_all
  obtain ⟨rfl, rfl⟩ := trodVars_none hV
  obtain ⟨a0, rfl, rfl, rfl, w0⟩ := open_int Try.underlying5 (hval 0 5 v0 rfl rfl) h0
  have k1 := h1
  have lt1 : ∀ x ∈ p1, x.block < W.heap.size := by obtain ⟨m, hm⟩ := k1; exact DataW.trod_lt m _ _ _ hm
  obtain ⟨e1, f1, _, b1⟩ := Al.row_open (K := 9) (ks := [some .i64, some .u64, some .u64, some .i64]) Try.underlying22 (by kernel_rfl) (by kernel_rfl) (hval 1 22 v1 rfl rfl) h1
  have k2 := h2
  have lt2 : ∀ x ∈ p2, x.block < W.heap.size := by obtain ⟨m, hm⟩ := k2; exact DataW.trod_lt m _ _ _ hm
  obtain ⟨x2, f2, b2⟩ := Al.agg_open (K := 9) (ks := [some .u8, some .u8]) (by kernel_rfl) (by kernel_rfl) (hval 2 58 v2 rfl rfl) h2
  clear hA0 hval0 hsz0 hsz
  refine (walk W a0 w0 v1 e1 f1 b1 v2 x2 f2 b2).mono fun e W' ⟨he, bel⟩ => ?_
  subst he
  exact ⟨_, rfl, _, _, _, [], _, [], hW', trodAll_mk1 (shut_bool Try.underlying4 _), (trodAll_cons_mk (shut_int Try.underlying5 w0) (trodAll_cons_mk (Below.trod laidOut (by kernel_rfl) (of_decide_eq_true (by kernel_rfl)) k1 bel lt1) (trodAll_cons_mk (Below.trod laidOut (by kernel_rfl) (of_decide_eq_true (by kernel_rfl)) k2 bel lt2) trodAll_mk0))), rfl, bel.frame _, fun h => by cases h⟩
theorem over : Rows.lossySpoiltRow.holds Try.pinned (OpenSpec.ofChange Rows.lossySpoiltSpec) :=
  OpenClaim.holds_of_wide 5 Try.f5 rfl rfl rfl rfl rfl rfl rfl ⟨rfl, rfl, rfl, rfl, rfl⟩ rfl rfl rfl rfl rfl (by kernel_rfl) Try.func5 (by kernel_rfl)
    (of_decide_eq_true (by kernel_rfl)) (by unfold Func.isWrapper; first | (rw [if_pos (by decide +kernel)]; kernel_rfl) | (rw [if_neg (by decide +kernel)]; exact ⟨rfl, rfl⟩))
    (fun os started H enc _ => lifted os started H enc)
theorem proved : Rows.LossySpoiltSaid := over
#print axioms proved
end Go.Proofs.Ytkoimgeckkodhaa.lossySpoilt
namespace Go.Proofs.Ytkoimgeckkodhaa
/-- The row, under a short name, for the claim. -/
theorem lossySpoilt_holds : Rows.LossySpoiltSaid := lossySpoilt.proved
end Go.Proofs.Ytkoimgeckkodhaa
