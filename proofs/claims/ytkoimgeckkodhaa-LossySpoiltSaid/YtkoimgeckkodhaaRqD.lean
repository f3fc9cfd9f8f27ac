/- The laws of two queues: each answers true. Conditions: the numbers fit their kinds. Two queues: what stays apart, and what is evicted: of rows of keys alone. Conditions: none. Two queues: bounds, and what acts evict: of rows of keys alone. Conditions: none. -/
import Derived.Test.YtkoimgeckkodhaaRqC
import Derived.Test.YtkoimgeckkodhaaRqB
section
set_option linter.unusedVariables false
set_option linter.unusedSimpArgs false
set_option maxRecDepth 20000
set_option maxHeartbeats 1600000
-- axs, axw, aresL, afill, Value.oneCell', Nat.reduceLT, Nat.reduceLeDiff, Nat.reduceEqDiff, Nat.reduceAdd, Nat.reduceMul, Nat.reduceSub, Nat.reduceBEq, Int.reduceLE, Int.reduceLT, Int.reduceToNat, Int.reduceNeg, Int.reduceEq, axt, ftK, ft3, AAll, ftQ, S4, tys: S4
-- NOIDS: noIdsE_DD
namespace Go.Al
open Go.Proofs
theorem wfu8 {n : Int} (h : (Lit.int .u8 n).wf = true) : 0 ≤ n ∧ n < 256 := by
  simp [Lit.wf, IntKind.min, IntKind.max, IntKind.signed, IntKind.bits] at h
  omega
theorem size12 {c : Int} (h0 : 0 ≤ c) (h1 : c < 256) : 1 ≤ 1 + c.tmod 12 ∧ 1 + c.tmod 12 ≤ 12 ∧ IntKind.i64.wrap c = c ∧ IntKind.i64.wrap (1 + c.tmod 12) = 1 + c.tmod 12 ∧ capOf (1 + c.tmod 12) = 1 + c.tmod 12 := by
  have h2 := Int.tmod_nonneg 12 h0
  have h3 := Int.tmod_lt_of_pos c (show (0 : Int) < 12 by omega)
  exact ⟨by omega, by omega, wrap_in h0 (by omega), wrap_in (by omega) (by omega), capOf_same (by omega) (by omega)⟩
def aw : Nat → TQ
  | 0 => ⟨[], [], []⟩
  | p + 1 => (tqAdmit 4 (aw p) ((p + 1 : Nat) : Int)).1
/-- States that come up are short. -/
structure TqShort (C : Int) (s : TQ) : Prop where
  c0 : 1 ≤ C
  c1 : C ≤ 14
  len : ((s.I.length + s.M.length : Nat) : Int) ≤ C
  out : s.O.length ≤ 600000
theorem without_lt : ∀ {l : List Int} {k : Int}, k ∈ l → (without l k).length < l.length
  | x :: l, k, h => by
    by_cases e : x = k
    · subst e
      have h1 : without (x :: l) x = without l x := by simp [without]
      have := without_len l x
      rw [h1, List.length_cons]; omega
    · have h1 : without (x :: l) k = x :: without l k := by simp [without, e]
      have h2 : k ∈ l := by
        rcases List.mem_cons.1 h with h | h
        · exact absurd h.symm e
        · exact h
      have := without_lt h2
      rw [h1, List.length_cons, List.length_cons]; omega
theorem TqShort.act {C : Int} {s : TQ} (h : TqShort C s) {a : Deed} (ha : a.Fits) : TqShort (tqDo C s a).1 (tqDo C s a).2.1 ∧ (tqDo C s a).2.2.length ≤ 600000 := by
  have hs := sizeOf_le ha
  have hcs : capOf (sizeOf' a) = sizeOf' a := capOf_same (by omega) (by omega)
  have c0 := h.c0
  have c1 := h.c1
  have hl := h.len
  have ho := h.out
  rcases kindOf_cases a (decide (a.key ∈ s.I ++ s.M)) with e | e | e | e
  · have : tqDo C s a = (C, tqTouch s a.key, []) := by unfold tqDo; rw [if_pos e]
    rw [this]
    refine ⟨⟨c0, c1, ?_, ?_⟩, by simp⟩ <;> dsimp only <;> unfold tqTouch <;> split
    · rename_i hk
      have := without_lt hk
      show ((s.I.length + (a.key :: without s.M a.key).length : Nat) : Int) ≤ C
      rw [List.length_cons]; omega
    · exact hl
    · exact ho
    · exact ho
  · have : tqDo C s a = (C, (tqAdmit C s a.key).1, (tqAdmit C s a.key).2) := by unfold tqDo; rw [if_neg (by omega), if_pos e]
    rw [this]
    have hwl := without_len s.O a.key
    obtain ⟨l1, l2, l3⟩ := tqShrink_len (z := C - 1) c0 (by omega) (by omega) (s.I.length + s.M.length) ⟨s.I, without s.O a.key, s.M⟩ [] rfl (by show (without s.O a.key).length ≤ _; omega)
    unfold tqAdmit
    generalize tqShrink C (C - 1) (s.I.length + s.M.length) ⟨s.I, without s.O a.key, s.M⟩ [] = R at *
    simp only [List.length_nil] at l1
    split
    · exact ⟨⟨c0, c1, hl, ho⟩, by simp⟩
    · split
      · have hw2 := without_len R.1.M a.key
        refine ⟨⟨c0, c1, ?_, l2⟩, by show R.2.length ≤ _; omega⟩
        show ((R.1.I.length + (a.key :: without R.1.M a.key).length : Nat) : Int) ≤ C
        rw [List.length_cons]; omega
      · have hw2 := without_len R.1.I a.key
        refine ⟨⟨c0, c1, ?_, l2⟩, by show R.2.length ≤ _; omega⟩
        show (((a.key :: without R.1.I a.key).length + R.1.M.length : Nat) : Int) ≤ C
        rw [List.length_cons]; omega
  · have : tqDo C s a = (C, ⟨without s.I a.key, without s.O a.key, without s.M a.key⟩, []) := by unfold tqDo; rw [if_neg (by omega), if_neg (by omega), if_pos e]
    rw [this]
    have w1 := without_len s.I a.key
    have w2 := without_len s.O a.key
    have w3 := without_len s.M a.key
    refine ⟨⟨c0, c1, ?_, by show (without s.O a.key).length ≤ _; omega⟩, by simp⟩
    show (((without s.I a.key).length + (without s.M a.key).length : Nat) : Int) ≤ C
    omega
  · have : tqDo C s a = (capOf (sizeOf' a), (tqResize s (sizeOf' a)).1, (tqResize s (sizeOf' a)).2) := by unfold tqDo; rw [if_neg (by omega), if_neg (by omega), if_neg (by omega)]
    rw [this]
    unfold tqResize
    rw [hcs]
    obtain ⟨l1, l2, l3⟩ := tqShrink_len (C := sizeOf' a) (z := sizeOf' a) hs.1 (by omega) (by omega) (s.I.length + s.M.length) s [] rfl ho
    generalize tqShrink (sizeOf' a) (sizeOf' a) (s.I.length + s.M.length) s [] = R at *
    simp only [List.length_nil] at l1
    have := cutTo_le R.1.O ((sizeOf' a).tdiv 2)
    refine ⟨⟨hs.1, hs.2, ?_, by show (cutTo R.1.O _).length ≤ _; omega⟩, by show R.2.length ≤ _; omega⟩
    show ((R.1.I.length + R.1.M.length : Nat) : Int) ≤ _
    omega
def tqStep (s : Int × TQ) (a : Deed) : Int × TQ := ((tqDo s.1 s.2 a).1, (tqDo s.1 s.2 a).2.1)
def tqRun (c : Int) (l : List Deed) : Int × TQ := l.foldl tqStep (1 + c.tmod 12, ⟨[], [], []⟩)
theorem tqRun_snoc (c : Int) (l : List Deed) (a : Deed) : tqRun c (l ++ [a]) = tqStep (tqRun c l) a := by simp [tqRun]
theorem tqRun_short {c : Int} (h0 : 0 ≤ c) (h1 : c < 256) : ∀ (l : List Deed), (∀ a ∈ l, a.Fits) → TqShort (tqRun c l).1 (tqRun c l).2 := by
  obtain ⟨k1, k2, _⟩ := size12 h0 h1
  have gen : ∀ (l : List Deed) (s : Int × TQ), (∀ a ∈ l, a.Fits) → TqShort s.1 s.2 → TqShort (l.foldl tqStep s).1 (l.foldl tqStep s).2 := by
    intro l
    induction l with
    | nil => intro s _ h; exact h
    | cons a l ih =>
      intro s hf h
      exact ih (tqStep s a) (fun b hb => hf b (by simp [hb])) (h.act (hf a (by simp))).1
  intro l hf
  exact gen l _ hf ⟨k1, by show 1 + c.tmod 12 ≤ 14; omega, by show ((0 : Nat) : Int) ≤ 1 + c.tmod 12; omega, Nat.zero_le _⟩
theorem TqShort.bounds {C : Int} {I O M : List Int} (h : TqShort C ⟨I, O, M⟩) : C ≤ 1048576 ∧ I.length + M.length ≤ 400000 ∧ O.length ≤ 600000 := by
  have := h.c1
  have h2 : ((I.length + M.length : Nat) : Int) ≤ C := h.len
  exact ⟨by omega, by omega, h.out⟩
end Go.Al
end
section
set_option linter.unusedVariables false
set_option linter.unusedSimpArgs false
namespace Go.Al
theorem last_split {l : List Int} (h : l ≠ []) : l = l.take (l.length - 1) ++ [lastD l] := by
  have h0 := List.length_pos_iff.2 h
  have h1 := lastD_get h
  obtain ⟨h2, h3⟩ := List.getElem?_eq_some_iff.1 h1
  have := List.take_add_one (l := l) (i := l.length - 1)
  rw [h1, Nat.sub_add_cancel h0, List.take_length] at this
  simpa using this
theorem last_mem {l : List Int} (h : l ≠ []) (x : Int) : x ∈ l ↔ x = lastD l ∨ x ∈ l.take (l.length - 1) := by
  conv => lhs; rw [last_split h]
  simp [or_comm]
theorem last_apart {l : List Int} (h : l ≠ []) (hn : l.Nodup) : (l.take (l.length - 1)).Nodup ∧ lastD l ∉ l.take (l.length - 1) := by
  rw [last_split h, List.nodup_append] at hn
  refine ⟨hn.1, fun hm => hn.2.2 _ hm _ (by simp) rfl⟩
/-- No key is in two rows, or twice in one. -/
structure Sep (s : TQ) : Prop where
  nI : s.I.Nodup
  nO : s.O.Nodup
  nM : s.M.Nodup
  dIO : ∀ x ∈ s.I, x ∉ s.O
  dIM : ∀ x ∈ s.I, x ∉ s.M
  dOM : ∀ x ∈ s.O, x ∉ s.M
theorem mem_cutTo {l : List Int} {z x : Int} (h : x ∈ cutTo l z) : x ∈ l := (cut_mem l z x).2 (.inl h)
theorem reclaim_sep {C : Int} {s : TQ} (h : Sep s) (h0 : 0 < s.I.length + s.M.length) :
    Sep (tqReclaim C s).1 ∧ ((tqReclaim C s).2 ∈ s.I ∨ (tqReclaim C s).2 ∈ s.M) ∧ (tqReclaim C s).2 ∉ (tqReclaim C s).1.I ∧ (tqReclaim C s).2 ∉ (tqReclaim C s).1.M ∧
      (∀ x, x ∈ s.I ∨ x ∈ s.M → x = (tqReclaim C s).2 ∨ x ∈ (tqReclaim C s).1.I ∨ x ∈ (tqReclaim C s).1.M) ∧ (∀ x ∈ (tqReclaim C s).1.I, x ∈ s.I) ∧ (∀ x ∈ (tqReclaim C s).1.M, x ∈ s.M) ∧ (∀ x ∈ (tqReclaim C s).1.O, x ∈ s.O ∨ x = (tqReclaim C s).2) := by
  obtain ⟨I, O, M⟩ := s
  obtain ⟨nI, nO, nM, dIO, dIM, dOM⟩ := h
  simp only at nI nO nM dIO dIM dOM h0
  unfold tqReclaim
  split
  · rename_i hc
    simp only at hc
    have hI : I ≠ [] := by
      rintro rfl
      rcases hc with hc | hc
      · have := kin_le C; simp at hc; omega
      · subst hc; simp at h0
    obtain ⟨a1, a2⟩ := last_apart hI nI
    have hm := last_mem hI
    have hl : lastD I ∈ I := (hm _).2 (.inl rfl)
    have hO : ∀ x ∈ tqPut C O (lastD I), x ∈ O ∨ x = lastD I := fun x hx => by
      rcases mem_front.1 (mem_cutTo hx) with h | h
      · exact .inr h
      · exact .inl h
    refine ⟨⟨a1, cutTo_nodup _ (front_nodup _ nO), nM, ?_, fun x hx => dIM x (List.mem_of_mem_take hx), ?_⟩, .inl hl, a2, dIM _ hl, ?_, fun x hx => List.mem_of_mem_take hx, fun x hx => hx, hO⟩
    · intro x hx hxo
      rcases hO x hxo with h | rfl
      · exact dIO x (List.mem_of_mem_take hx) h
      · exact a2 hx
    · intro x hx
      rcases hO x hx with h | rfl
      · exact dOM x h
      · exact dIM _ hl
    · intro x hx
      rcases hx with hx | hx
      · rcases (hm x).1 hx with h | h
        · exact .inl h
        · exact .inr (.inl h)
      · exact .inr (.inr hx)
  · rename_i hc
    simp only at hc
    have hM : M ≠ [] := fun h => hc (.inr h)
    obtain ⟨a1, a2⟩ := last_apart hM nM
    have hm := last_mem hM
    have hl : lastD M ∈ M := (hm _).2 (.inl rfl)
    refine ⟨⟨nI, nO, a1, dIO, fun x hx hxm => dIM x hx (List.mem_of_mem_take hxm), fun x hx hxm => dOM x hx (List.mem_of_mem_take hxm)⟩, .inr hl, fun h => dIM _ h hl, a2, ?_, fun x hx => hx, fun x hx => List.mem_of_mem_take hx, fun x hx => .inl hx⟩
    intro x hx
    rcases hx with hx | hx
    · exact .inr (.inl hx)
    · rcases (hm x).1 hx with h | h
      · exact .inl h
      · exact .inr (.inr h)
/-- What reclaiming comes to: the keys e are evicted. -/
structure Went (s r : TQ) (e : List Int) : Prop where
  sep : Sep r
  ap : e.Nodup
  gone : ∀ x ∈ e, (x ∈ s.I ∨ x ∈ s.M) ∧ x ∉ r.I ∧ x ∉ r.M
  stay : ∀ x, x ∈ s.I ∨ x ∈ s.M → x ∈ e ∨ x ∈ r.I ∨ x ∈ r.M
  inI : ∀ x ∈ r.I, x ∈ s.I
  inM : ∀ x ∈ r.M, x ∈ s.M
  inO : ∀ x ∈ r.O, x ∈ s.O ∨ x ∈ e
theorem shrink_went {C z : Int} (z0 : 0 ≤ z) : ∀ (f : Nat) (s : TQ) (g : List Int), s.I.length + s.M.length = f → s.O.length ≤ 600000 → 1 ≤ C → C ≤ 1048576 → Sep s → ∃ e, (tqShrink C z f s g).2 = g ++ e ∧ Went s (tqShrink C z f s g).1 e
  | 0, s, g, h, ho, c0, c1, hs => ⟨[], by simp [tqShrink], ⟨hs, List.nodup_nil, by simp, fun x hx => .inr hx, fun x hx => hx, fun x hx => hx, fun x hx => .inl hx⟩⟩
  | f + 1, s, g, h, ho, c0, c1, hs => by
    unfold tqShrink
    by_cases hc : (s.I.length + s.M.length : Int) ≤ z
    · rw [if_pos hc]
      exact ⟨[], by simp, ⟨hs, List.nodup_nil, by simp, fun x hx => .inr hx, fun x hx => hx, fun x hx => hx, fun x hx => .inl hx⟩⟩
    · rw [if_neg hc]
      obtain ⟨l1, l2⟩ := tqReclaim_len (s := s) c0 c1 (by omega) ho
      obtain ⟨r1, r2, r3, r4, r5, r6, r7, r8⟩ := reclaim_sep (C := C) hs (by omega)
      obtain ⟨e, he, w⟩ := shrink_went z0 f (tqReclaim C s).1 (g ++ [(tqReclaim C s).2]) (by omega) l2 c0 c1 r1
      generalize tqReclaim C s = rc at *
      obtain ⟨q, k⟩ := rc
      simp only at r1 r2 r3 r4 r5 r6 r7 r8 he w ⊢
      refine ⟨k :: e, by rw [he]; simp, ⟨w.sep, ?_, ?_, ?_, fun x hx => r6 x (w.inI x hx), fun x hx => r7 x (w.inM x hx), ?_⟩⟩
      · rw [List.nodup_cons]
        refine ⟨fun hk => ?_, w.ap⟩
        rcases (w.gone k hk).1 with h | h
        · exact r3 h
        · exact r4 h
      · intro x hx
        rcases List.mem_cons.1 hx with rfl | hx
        · exact ⟨r2, fun h => r3 (w.inI _ h), fun h => r4 (w.inM _ h)⟩
        · obtain ⟨g1, g2, g3⟩ := w.gone x hx
          refine ⟨?_, g2, g3⟩
          rcases g1 with g1 | g1
          · exact .inl (r6 x g1)
          · exact .inr (r7 x g1)
      · intro x hx
        rcases r5 x hx with rfl | h
        · exact .inl (by simp)
        · rcases w.stay x h with h | h
          · exact .inl (List.mem_cons_of_mem _ h)
          · exact .inr h
      · intro x hx
        rcases w.inO x hx with h | h
        · rcases r8 x h with h | rfl
          · exact .inl h
          · exact .inr (by simp)
        · exact .inr (List.mem_cons_of_mem _ h)
end Go.Al
end
section
set_option linter.unusedVariables false
set_option linter.unusedSimpArgs false
namespace Go.Al
theorem shrink_out {C z : Int} (c0 : 1 ≤ C) (c1 : C ≤ 1048576) : ∀ (f : Nat) (s : TQ) (g : List Int), (s.O.length : Int) ≤ C.tdiv 2 → ((tqShrink C z f s g).1.O.length : Int) ≤ C.tdiv 2
  | 0, s, g, h => h
  | f + 1, s, g, h => by
    unfold tqShrink
    split
    · exact h
    · refine shrink_out c0 c1 f _ _ ?_
      obtain ⟨_, _, h0, h1, _⟩ := div_facts c0 c1
      unfold tqReclaim
      split
      · show ((tqPut C s.O (lastD s.I)).length : Int) ≤ _
        unfold tqPut
        have := cutTo_len (lastD s.I :: without s.O (lastD s.I)) (C.tdiv 2) h0
        omega
      · exact h
structure TqOk (C : Int) (s : TQ) : Prop extends TqShort C s where
  sep : Sep s
  half : (s.O.length : Int) ≤ C.tdiv 2
theorem Sep.drop {s : TQ} (h : Sep s) (k : Int) : Sep ⟨without s.I k, without s.O k, without s.M k⟩ :=
  ⟨without_nodup k h.nI, without_nodup k h.nO, without_nodup k h.nM, fun x hx hc => h.dIO x (mem_without.1 hx).1 (mem_without.1 hc).1, fun x hx hc => h.dIM x (mem_without.1 hx).1 (mem_without.1 hc).1, fun x hx hc => h.dOM x (mem_without.1 hx).1 (mem_without.1 hc).1⟩
theorem Sep.less {s : TQ} (h : Sep s) {O : List Int} (hO : ∀ x ∈ O, x ∈ s.O) (hn : O.Nodup) : Sep ⟨s.I, O, s.M⟩ :=
  ⟨h.nI, hn, h.nM, fun x hx hc => h.dIO x hx (hO x hc), h.dIM, fun x hx => h.dOM x (hO x hx)⟩
/-- A key to the front of Main. -/
theorem Sep.main {s : TQ} (h : Sep s) {k : Int} (hI : k ∉ s.I) (hO : k ∉ s.O) : Sep ⟨s.I, s.O, k :: without s.M k⟩ :=
  ⟨h.nI, h.nO, front_nodup k h.nM, h.dIO, fun x hx hc => by rcases mem_front.1 hc with rfl | hc; exact hI hx; exact h.dIM x hx hc, fun x hx hc => by rcases mem_front.1 hc with rfl | hc; exact hO hx; exact h.dOM x hx hc⟩
/-- A key to the front of In. -/
theorem Sep.inn {s : TQ} (h : Sep s) {k : Int} (hO : k ∉ s.O) (hM : k ∉ s.M) : Sep ⟨k :: without s.I k, s.O, s.M⟩ :=
  ⟨front_nodup k h.nI, h.nO, h.nM, fun x hx hc => by rcases mem_front.1 hx with rfl | hx; exact hO hc; exact h.dIO x hx hc, fun x hx hc => by rcases mem_front.1 hx with rfl | hx; exact hM hc; exact h.dIM x hx hc, h.dOM⟩
theorem not_app {k : Int} {a b : List Int} (h : k ∉ a ++ b) : k ∉ a ∧ k ∉ b := ⟨fun x => h (List.mem_append_left _ x), fun x => h (List.mem_append_right _ x)⟩
theorem TqOk.act {C : Int} {s : TQ} (h : TqOk C s) {a : Deed} (ha : a.Fits) : TqOk (tqDo C s a).1 (tqDo C s a).2.1 ∧ EvOk (s.I ++ s.M) ((tqDo C s a).2.1.I ++ (tqDo C s a).2.1.M) (tqDo C s a).2.2 (kindOf a (decide (a.key ∈ s.I ++ s.M))) (decide (a.key ∈ s.I ++ s.M)) a.key (sizeOf' a) := by
  have hsh := (h.toTqShort.act ha).1
  have hs := sizeOf_le ha
  have hcs : capOf (sizeOf' a) = sizeOf' a := capOf_same (by omega) (by omega)
  have c0 := h.c0
  have c1 := h.c1
  have sp := h.sep
  have hh := h.half
  have ho := h.out
  obtain ⟨_, _, d0, d1, _⟩ := div_facts c0 (by omega : C ≤ 1048576)
  rcases kindOf_cases a (decide (a.key ∈ s.I ++ s.M)) with e | e | e | e
  · have : tqDo C s a = (C, tqTouch s a.key, []) := by unfold tqDo; rw [if_pos e]
    rw [this] at hsh ⊢
    rw [e]
    by_cases hk : a.key ∈ s.M
    · have ht : tqTouch s a.key = ⟨s.I, s.O, a.key :: without s.M a.key⟩ := if_pos hk
      rw [ht] at hsh ⊢
      have hl := front_len sp.nM hk
      refine ⟨⟨hsh, sp.main (fun hc => sp.dIM _ hc hk) (fun hc => sp.dOM _ hc hk), hh⟩, ⟨by simp, ?_, rfl, ?_, by simp⟩⟩
      · intro x hx
        refine .inr (.inl ?_)
        rcases List.mem_append.1 hx with hx | hx
        · exact List.mem_append_left _ hx
        · exact List.mem_append_right _ (mem_front.2 (.inr hx))
      · simp only [List.length_append, hl]; simp
    · have ht : tqTouch s a.key = s := if_neg hk
      rw [ht] at hsh ⊢
      exact ⟨h, ⟨by simp, fun x hx => .inr (.inl hx), rfl, by simp, by simp⟩⟩
  · have : tqDo C s a = (C, (tqAdmit C s a.key).1, (tqAdmit C s a.key).2) := by unfold tqDo; rw [if_neg (by omega), if_pos e]
    rw [this] at hsh ⊢
    rw [e]
    by_cases hk : a.key ∈ s.I ++ s.M
    · have ht : tqAdmit C s a.key = (s, []) := if_pos hk
      rw [ht] at hsh ⊢
      exact ⟨h, ⟨by simp, fun x hx => .inr (.inl hx), rfl, by simp [hk], by simp⟩⟩
    · have hwl := without_len s.O a.key
      have hs1 : Sep ⟨s.I, without s.O a.key, s.M⟩ := sp.less (fun x hx => (mem_without.1 hx).1) (without_nodup _ sp.nO)
      obtain ⟨l1, l2, l3⟩ := tqShrink_len (z := C - 1) c0 (by omega) (by omega) (s.I.length + s.M.length) ⟨s.I, without s.O a.key, s.M⟩ [] rfl (by show (without s.O a.key).length ≤ _; omega)
      obtain ⟨ev, he, w⟩ := shrink_went (C := C) (z := C - 1) (by omega) (s.I.length + s.M.length) ⟨s.I, without s.O a.key, s.M⟩ [] rfl (by show (without s.O a.key).length ≤ _; omega) c0 (by omega) hs1
      have hout := shrink_out (z := C - 1) c0 (by omega) (s.I.length + s.M.length) ⟨s.I, without s.O a.key, s.M⟩ [] (by show ((without s.O a.key).length : Int) ≤ _; omega)
      obtain ⟨hkI, hkM⟩ := not_app hk
      unfold tqAdmit at hsh ⊢
      rw [if_neg hk] at hsh ⊢
      generalize tqShrink C (C - 1) (s.I.length + s.M.length) ⟨s.I, without s.O a.key, s.M⟩ [] = R at *
      obtain ⟨⟨I2, O2, M2⟩, G⟩ := R
      simp only [List.nil_append, List.length_nil, Nat.add_zero] at l1 l2 l3 he w hout hsh ⊢
      subst he
      have hkI2 : a.key ∉ I2 := fun hc => hkI (w.inI _ hc)
      have hkM2 : a.key ∉ M2 := fun hc => hkM (w.inM _ hc)
      have hkO2 : a.key ∉ O2 := fun hc => by
        rcases w.inO _ hc with h1 | h1
        · exact (mem_without.1 h1).2 rfl
        · rcases (w.gone _ h1).1 with h2 | h2
          · exact hkI h2
          · exact hkM h2
      have ge1 : ∀ x ∈ G, x ∈ s.I ++ s.M ∧ x ∉ I2 ∧ x ∉ M2 ∧ x ≠ a.key := fun x hx => by
        obtain ⟨g1, g2, g3⟩ := w.gone x hx
        refine ⟨List.mem_append.2 g1, g2, g3, ?_⟩
        rintro rfl
        rcases g1 with g1 | g1
        · exact hkI g1
        · exact hkM g1
      by_cases hkO : a.key ∈ s.O
      · rw [if_pos hkO] at hsh ⊢
        refine ⟨⟨hsh, w.sep.main hkI2 hkO2, hout⟩, ⟨?_, ?_, apart_iff.2 w.ap, ?_, by simp⟩⟩
        · intro x hx
          obtain ⟨g1, g2, g3, g4⟩ := ge1 x hx
          exact ⟨g1, by simp [g2, g4, without_same hkM2, g3]⟩
        · intro x hx
          rcases w.stay x (List.mem_append.1 hx) with h1 | h1 | h1
          · exact .inl h1
          · exact .inr (.inl (List.mem_append_left _ h1))
          · exact .inr (.inl (List.mem_append_right _ (mem_front.2 (.inr h1))))
        · simp [hk, without_same hkM2]; omega
      · rw [if_neg hkO] at hsh ⊢
        refine ⟨⟨hsh, w.sep.inn hkO2 hkM2, hout⟩, ⟨?_, ?_, apart_iff.2 w.ap, ?_, by simp⟩⟩
        · intro x hx
          obtain ⟨g1, g2, g3, g4⟩ := ge1 x hx
          exact ⟨g1, by simp [g2, g4, without_same hkI2, g3]⟩
        · intro x hx
          rcases w.stay x (List.mem_append.1 hx) with h1 | h1 | h1
          · exact .inl h1
          · exact .inr (.inl (List.mem_append_left _ (mem_front.2 (.inr h1))))
          · exact .inr (.inl (List.mem_append_right _ h1))
        · simp [hk, without_same hkI2]; omega
  · have : tqDo C s a = (C, ⟨without s.I a.key, without s.O a.key, without s.M a.key⟩, []) := by unfold tqDo; rw [if_neg (by omega), if_neg (by omega), if_pos e]
    rw [this] at hsh ⊢
    rw [e]
    have hwl := without_len s.O a.key
    refine ⟨⟨hsh, sp.drop a.key, by show ((without s.O a.key).length : Int) ≤ C.tdiv 2; omega⟩, ⟨by simp, ?_, rfl, ?_, by simp⟩⟩
    · intro x hx
      by_cases hx2 : x = a.key
      · exact .inr (.inr ⟨rfl, hx2⟩)
      · refine .inr (.inl ?_)
        rcases List.mem_append.1 hx with hx | hx
        · exact List.mem_append_left _ (mem_without.2 ⟨hx, hx2⟩)
        · exact List.mem_append_right _ (mem_without.2 ⟨hx, hx2⟩)
    · by_cases h1 : a.key ∈ s.I
      · have h2 : a.key ∉ s.M := sp.dIM _ h1
        have l1 := without_mem_len sp.nI h1
        have l0 : 0 < s.I.length := List.length_pos_iff.2 (List.ne_nil_of_mem h1)
        simp [without_same h2, h1]; omega
      · by_cases h2 : a.key ∈ s.M
        · have l1 := without_mem_len sp.nM h2
          have l0 : 0 < s.M.length := List.length_pos_iff.2 (List.ne_nil_of_mem h2)
          simp [without_same h1, h2]; omega
        · simp [without_same h1, without_same h2, h1, h2]
  · have : tqDo C s a = (sizeOf' a, (tqResize s (sizeOf' a)).1, (tqResize s (sizeOf' a)).2) := by unfold tqDo; rw [if_neg (by omega), if_neg (by omega), if_neg (by omega), hcs]
    rw [this] at hsh ⊢
    rw [e]
    unfold tqResize at hsh ⊢
    rw [hcs] at hsh ⊢
    obtain ⟨l1, l2, l3⟩ := tqShrink_len (C := sizeOf' a) (z := sizeOf' a) hs.1 (by omega) (by omega) (s.I.length + s.M.length) s [] rfl ho
    obtain ⟨ev, he, w⟩ := shrink_went (C := sizeOf' a) (z := sizeOf' a) (by omega) (s.I.length + s.M.length) s [] rfl ho hs.1 (by omega) sp
    obtain ⟨_, _, d0', d1', _⟩ := div_facts hs.1 (by omega : sizeOf' a ≤ 1048576)
    generalize tqShrink (sizeOf' a) (sizeOf' a) (s.I.length + s.M.length) s [] = R at *
    obtain ⟨⟨I2, O2, M2⟩, G⟩ := R
    simp only [List.nil_append, List.length_nil, Nat.add_zero] at l1 l2 l3 he w hsh ⊢
    subst he
    refine ⟨⟨hsh, w.sep.less (fun x hx => mem_cutTo hx) (cutTo_nodup _ w.sep.nO), by show ((cutTo O2 _).length : Int) ≤ _; rw [cutTo_len _ _ d0']; omega⟩, ⟨?_, ?_, apart_iff.2 w.ap, ?_, fun _ => ?_⟩⟩
    · intro x hx
      obtain ⟨g1, g2, g3⟩ := w.gone x hx
      exact ⟨List.mem_append.2 g1, by simp [g2, g3]⟩
    · intro x hx
      rcases w.stay x (List.mem_append.1 hx) with h1 | h1 | h1
      · exact .inl h1
      · exact .inr (.inl (List.mem_append_left _ h1))
      · exact .inr (.inl (List.mem_append_right _ h1))
    · simp; omega
    · simp; omega
theorem tqRun_ok {c : Int} (h0 : 0 ≤ c) (h1 : c < 256) : ∀ (l : List Deed), (∀ a ∈ l, a.Fits) → TqOk (tqRun c l).1 (tqRun c l).2 := by
  obtain ⟨k1, k2, _⟩ := size12 h0 h1
  have gen : ∀ (l : List Deed) (s : Int × TQ), (∀ a ∈ l, a.Fits) → TqOk s.1 s.2 → TqOk (l.foldl tqStep s).1 (l.foldl tqStep s).2 := by
    intro l
    induction l with
    | nil => intro s _ h; exact h
    | cons a l ih =>
      intro s hf h
      exact ih (tqStep s a) (fun b hb => hf b (by simp [hb])) (h.act (hf a (by simp))).1
  intro l hf
  obtain ⟨_, _, d0, _, _⟩ := div_facts k1 (by omega : 1 + c.tmod 12 ≤ 1048576)
  exact gen l _ hf ⟨⟨k1, by show 1 + c.tmod 12 ≤ 14; omega, by show ((0 : Nat) : Int) ≤ 1 + c.tmod 12; omega, Nat.zero_le _⟩, ⟨List.nodup_nil, List.nodup_nil, List.nodup_nil, by simp, by simp, by simp⟩, by show ((0 : Nat) : Int) ≤ _; exact d0⟩
end Go.Al
end
