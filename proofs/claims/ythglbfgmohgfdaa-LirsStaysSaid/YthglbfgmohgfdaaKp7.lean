/- Low inter-reference recency, plainly: an admission, a drop, another capacity; each act. Conditions: none. -/
import Derived.Test.YthglbfgmohgfdaaKp6
set_option linter.unusedVariables false
set_option linter.unusedSimpArgs false
namespace Go.Al
/-- A key that comes. -/
theorem liCome_ok {t : LS} {k : Int} (c0 : 1 ≤ t.C) (hb : LiB t.S t.Q) (hr : (many 2 t.S : Int) ≤ roomOf t.C) (hk : k ∉ liKeys t) : (liCome t k).C = t.C ∧ LiB (liCome t k).S (liCome t k).Q ∧ (liKeys (liCome t k)).Perm (k :: liKeys t) ∧ (many 2 (liCome t k).S : Int) ≤ roomOf t.C := by
  have hkn : k ∉ hotK t.S := fun h => hk (List.mem_append_left _ h)
  have hkq : k ∉ t.Q := fun h => hk (List.mem_append_right _ h)
  unfold liCome
  split
  · have hB : LiB ((k, 2) :: remK t.S k) t.Q := hb.put k (.inr rfl) hb.qn (fun _ _ => Iff.rfl) ⟨fun hq => absurd hq hkq, fun e => by omega⟩
    obtain ⟨a1, a2, a3⟩ := coolL_ok (s := stkL t k 2) c0 hB
    obtain ⟨f1, f2, f3, f4⟩ := coolL_facts (stkL t k 2) c0
    refine ⟨f1, a1, a2.trans ?_, f4⟩
    show (hotK ((k, 2) :: remK t.S k) ++ t.Q).Perm (k :: (hotK t.S ++ t.Q))
    rw [hotK_cons, if_pos rfl, hotK_remK hb.sn, without_same hkn]
    exact List.Perm.refl _
  · have hT : hotK ((k, 1) :: remK t.S k) = hotK t.S := by rw [hotK_cons, if_neg (by simp), hotK_remK hb.sn, without_same hkn]; rfl
    refine ⟨rfl, hb.put k (.inl rfl) (lastQ_nodup k hb.qn) (fun x hx => mem_lastQ hx) ⟨fun _ => rfl, fun _ => self_lastQ _ _⟩, ?_, ?_⟩
    · show (hotK ((k, 1) :: remK t.S k) ++ lastQ t.Q k).Perm (k :: (hotK t.S ++ t.Q))
      rw [hT, lastQ_new hkq, ← List.append_assoc]
      exact List.perm_append_singleton k _
    · show (many 2 ((k, 1) :: remK t.S k) : Int) ≤ _
      rw [many_of_hot hT]; exact hr
theorem LiOk.admit {s : LS} (h : LiOk s) {k : Int} (hk : k ∉ liKeys s) : LiOk (liAdmit s k).1 ∧ ∃ R, ((liAdmit s k).2 ++ R).Perm (liKeys s) ∧ (liKeys (liAdmit s k).1).Perm (k :: R) := by
  have hr0 := roomOf_le h.c0
  have hr := h.hr
  have hn := h.keys
  obtain ⟨b1, b2, b3, b4⟩ := shrinkL_ok (z := s.C - 1) h.b (by omega)
  obtain ⟨f1, f2, f3, f4, f5⟩ := shrunk_facts (s.C - 1) s.Q.length s []
  change (shrinkL (s.C - 1) s).1.C = _ at f1
  unfold liAdmit
  rw [if_neg hk]
  have hl := b3.length_eq
  have hkl := liKeys_len s
  generalize shrinkL (s.C - 1) s = r at *
  obtain ⟨t, out⟩ := r
  simp only at b1 b2 b3 b4 f1 hl ⊢
  have hkt : k ∉ liKeys t := fun h => hk (b3.subset (List.mem_append_right _ h))
  obtain ⟨c1, c2, c3, c4⟩ := liCome_ok (t := t) (k := k) (by rw [f1]; exact h.c0) b1 (by rw [many_of_hot b2, f1]; exact hr) hkt
  generalize liCome t k = u at *
  obtain ⟨g1, g2, g3, g4, g5, g6⟩ := forgetL_ok (s := pruneL u) (by show 0 ≤ u.C; rw [c1, f1]; omega) (c2.sub (pruned_sub _)) (hotEnd_pruned _)
  have hK : liKeys (forgetL (pruneL u)) = liKeys u := by
    rw [← liKeys_prune u]
    unfold liKeys
    rw [g2, g6]
  have hC : (forgetL (pruneL u)).C = s.C := g5.trans (c1.trans f1)
  have hp : (liKeys (forgetL (pruneL u))).Perm (k :: liKeys t) := by rw [hK]; exact c3
  refine ⟨h.of hC g1 ?_ ?_ (by rw [show s.C = (pruneL u).C from (c1.trans f1).symm]; exact g3) g4, liKeys t, b3, hp⟩
  · rw [many_of_hot g2]
    show (many 2 (pruned u.S) : Int) ≤ _
    rw [many_pruned, ← f1]; exact c4
  · rw [hp.length_eq, List.length_cons]
    rw [List.length_append] at hl
    have := h.keys_len
    omega
theorem LiOk.drop {s : LS} (h : LiOk s) (k : Int) : LiOk (liDrop s k) ∧ liKeys (liDrop s k) = without (liKeys s) k := by
  have hb := h.b
  have hK : liKeys (liDrop s k) = without (liKeys s) k := by
    unfold liDrop
    rw [liKeys_prune]
    unfold liKeys
    rw [hotK_remK hb.sn]
    simp [without]
  have hB : LiB (remK s.S k) (without s.Q k) := by
    have h1 := hb.sub (remK_sub s.S k)
    refine ⟨h1.sn, without_nodup k hb.qn, h1.kd, fun x hx => ?_⟩
    rw [← h1.cq x hx, mem_without]
    exact ⟨fun h => h.1, fun h => ⟨h, ((mem_remK hb.sn).1 hx).2⟩⟩
  have hm := many_sub (remK_sub s.S k) 2
  have hm0 := many_sub ((pruned_sub (remK s.S k)).trans (remK_sub s.S k)) 0
  have := h.hr
  have := h.hg
  refine ⟨h.of rfl (hB.sub (pruned_sub _)) ?_ ?_ (by show (many 0 (pruned (remK s.S k)) : Int) ≤ _; omega) (hotEnd_pruned _), hK⟩
  · show (many 2 (pruned (remK s.S k)) : Int) ≤ _
    rw [many_pruned]; omega
  · rw [hK]
    have := without_len (liKeys s) k
    have := h.keys_len
    omega
theorem LiOk.resize {s : LS} (h : LiOk s) {c : Int} (h0 : 1 ≤ capOf c) (h1 : capOf c ≤ 14) : LiOk (liResize s c).1 ∧ ∃ R, ((liResize s c).2 ++ R).Perm (liKeys s) ∧ (liKeys (liResize s c).1).Perm R ∧ ((liResize s c).2.length : Int) = max (((liKeys s).length : Int) - capOf c) 0 := by
  have hr0 := roomOf_le h0
  obtain ⟨a1, a2, a3⟩ := coolL_ok (s := ⟨capOf c, s.S, s.Q⟩) h0 h.b
  obtain ⟨e1, e2, e3, e4⟩ := coolL_facts ⟨capOf c, s.S, s.Q⟩ h0
  unfold liResize
  simp only at e1 e4
  have a2 : (liKeys (coolL ⟨capOf c, s.S, s.Q⟩)).Perm (liKeys s) := a2
  generalize coolL ⟨capOf c, s.S, s.Q⟩ = w at *
  obtain ⟨b1, b2, b3, b4⟩ := shrinkL_ok (z := capOf c) a1 (by omega)
  obtain ⟨f1, f2, f3, f4, f5⟩ := shrunk_facts (capOf c) w.Q.length w []
  change (shrinkL (capOf c) w).1.C = _ at f1
  have hl := b3.length_eq
  have hlw := a2.length_eq
  have hkw := liKeys_len w
  generalize shrinkL (capOf c) w = r at *
  obtain ⟨t, out⟩ := r
  simp only at b1 b2 b3 b4 f1 hl ⊢
  obtain ⟨g1, g2, g3, g4, g5, g6⟩ := forgetL_ok (s := pruneL t) (by show 0 ≤ t.C; rw [f1, e1]; omega) (b1.sub (pruned_sub _)) (hotEnd_pruned _)
  have hK : liKeys (forgetL (pruneL t)) = liKeys t := by
    rw [← liKeys_prune t]
    unfold liKeys
    rw [g2, g6]
  have hC : (forgetL (pruneL t)).C = capOf c := g5.trans (f1.trans e1)
  rw [List.length_append] at hl
  refine ⟨⟨by rw [hC]; exact h0, by rw [hC]; exact h1, g1, ?_, ?_, ?_, g4⟩, liKeys t, b3.trans a2, by rw [hK], by omega⟩
  · rw [many_of_hot g2, hC]
    show (many 2 (pruned t.S) : Int) ≤ _
    rw [many_pruned, many_of_hot b2]; exact e4
  · have := liKeys_len (forgetL (pruneL t))
    rw [hK] at this
    rw [hC]
    omega
  · rw [hC]
    have g3 : _ ≤ t.C := g3
    rw [f1, e1] at g3
    exact g3
def liDo (s : LS) (a : Deed) : LS × List Int :=
  if kindOf a (decide (a.key ∈ liKeys s)) = 1 then (liTouch s a.key, [])
  else if kindOf a (decide (a.key ∈ liKeys s)) = 2 then liAdmit s a.key
  else if kindOf a (decide (a.key ∈ liKeys s)) = 3 then (liDrop s a.key, [])
  else liResize s (sizeOf' a)
/-- What goes and what comes, as rows in any order. -/
theorem ev_perm {was is out R N : List Int} {kind key size : Int} {there : Bool} (hn : was.Nodup) (hp : (out ++ R).Perm was) (hi : is.Perm (N ++ R)) (hN : ∀ x ∈ N, x ∉ was) (hl : N.length = if kind = 2 ∧ there = false then 1 else 0) (h3 : kind ≠ 3) (sz : kind = 4 → (out.length : Int) = max ((was.length : Int) - size) 0) : EvOk was is out kind there key size := by
  have hnd := hp.nodup_iff.2 hn
  rw [List.nodup_append] at hnd
  refine ⟨fun x hx => ⟨hp.subset (List.mem_append_left _ hx), fun hx2 => ?_⟩, fun x hx => ?_, apart_iff.2 hnd.1, ?_, sz⟩
  · rcases List.mem_append.1 (hi.subset hx2) with h | h
    · exact hN x h (hp.subset (List.mem_append_left _ hx))
    · exact hnd.2.2 x hx x h rfl
  · rcases List.mem_append.1 (hp.symm.subset hx) with h | h
    · exact .inl h
    · exact .inr (.inl (hi.symm.subset (List.mem_append_right _ h)))
  · have h1 := hp.length_eq
    have h2 := hi.length_eq
    rw [List.length_append] at h1 h2
    rw [if_neg (c := kind = 3 ∧ there = true) (fun h => h3 h.1)]
    by_cases h : kind = 2 ∧ there = false
    · rw [if_pos h] at hl ⊢; omega
    · rw [if_neg h] at hl ⊢; omega
theorem LiOk.act {s : LS} (h : LiOk s) {a : Deed} (ha : a.Fits) : LiOk (liDo s a).1 ∧ EvOk (liKeys s) (liKeys (liDo s a).1) (liDo s a).2 (kindOf a (decide (a.key ∈ liKeys s))) (decide (a.key ∈ liKeys s)) a.key (sizeOf' a) := by
  have hs := sizeOf_le ha
  have hcs : capOf (sizeOf' a) = sizeOf' a := capOf_same (by omega) (by omega)
  rcases kindOf_cases a (decide (a.key ∈ liKeys s)) with e | e | e | e
  · have : liDo s a = (liTouch s a.key, []) := by unfold liDo; rw [if_pos e]
    rw [this, e]
    obtain ⟨h1, h2⟩ := h.touch a.key
    exact ⟨h1, ev_perm (R := liKeys s) (N := []) h.keys (List.Perm.refl _) h2 (fun x hx => (nomatch hx)) (by rw [if_neg (fun h => by have := h.1; omega)]; rfl) (by omega) (fun h => by omega)⟩
  · have : liDo s a = liAdmit s a.key := by unfold liDo; rw [if_neg (by omega), if_pos e]
    rw [this, e]
    by_cases hk : a.key ∈ liKeys s
    · have h2 : liAdmit s a.key = (s, []) := if_pos hk
      rw [h2]
      exact ⟨h, ev_perm (R := liKeys s) (N := []) h.keys (List.Perm.refl _) (List.Perm.refl _) (fun x hx => (nomatch hx)) (by rw [if_neg (fun h => by have := h.2; simp [hk] at this)]; rfl) (by omega) (fun h => by omega)⟩
    · obtain ⟨h1, R, h2, h3⟩ := h.admit hk
      exact ⟨h1, ev_perm (R := R) (N := [a.key]) h.keys h2 h3 (fun x hx => by rw [List.mem_singleton.1 hx]; exact hk) (by rw [if_pos ⟨rfl, by simp [hk]⟩]; rfl) (by omega) (fun h => by omega)⟩
  · have : liDo s a = (liDrop s a.key, []) := by unfold liDo; rw [if_neg (by omega), if_neg (by omega), if_pos e]
    rw [this, e]
    obtain ⟨h1, h2⟩ := h.drop a.key
    refine ⟨h1, ?_⟩
    simp only
    rw [h2]
    refine ⟨fun x hx => (nomatch hx), fun x hx => ?_, rfl, ?_, fun h => by omega⟩
    · by_cases hx2 : x = a.key
      · exact .inr (.inr ⟨rfl, hx2⟩)
      · exact .inr (.inl (mem_without.2 ⟨hx, hx2⟩))
    · rw [if_neg (fun h => by have := h.1; omega)]
      by_cases hk : a.key ∈ liKeys s
      · have h3 := without_mem_len h.keys hk
        have h4 : 0 < (liKeys s).length := List.length_pos_iff.2 (List.ne_nil_of_mem hk)
        rw [if_pos ⟨rfl, by simp [hk]⟩, h3, List.length_nil]
        omega
      · rw [if_neg (fun h => by have := h.2; simp [hk] at this), without_same hk, List.length_nil]
        omega
  · have : liDo s a = liResize s (sizeOf' a) := by unfold liDo; rw [if_neg (by omega), if_neg (by omega), if_neg (by omega)]
    rw [this, e]
    obtain ⟨h1, R, h2, h3, h4⟩ := h.resize (c := sizeOf' a) (by omega) (by omega)
    rw [hcs] at h4
    exact ⟨h1, ev_perm (R := R) (N := []) h.keys h2 h3 (fun x hx => (nomatch hx)) (by rw [if_neg (fun h => by have := h.1; omega)]; rfl) (by omega) (fun _ => h4)⟩
def liStep (s : LS) (a : Deed) : LS := (liDo s a).1
def liRun (c : Int) (l : List Deed) : LS := l.foldl liStep ⟨1 + c.tmod 12, [], []⟩
theorem liRun_snoc (c : Int) (l : List Deed) (a : Deed) : liRun c (l ++ [a]) = (liDo (liRun c l) a).1 := by simp [liRun, liStep]
theorem liOk_new {C : Int} (h0 : 1 ≤ C) (h1 : C ≤ 14) : LiOk ⟨C, [], []⟩ := by
  have := roomOf_le h0
  exact ⟨h0, h1, ⟨by simp, by simp, fun x hx => (nomatch hx), fun x hx => (nomatch hx)⟩, by show ((0 : Nat) : Int) ≤ roomOf C; omega, by show ((0 : Nat) : Int) + ((0 : Nat) : Int) ≤ C; omega, by show ((0 : Nat) : Int) ≤ C; omega, fun x hx => (nomatch hx)⟩
theorem liRun_ok {c : Int} (k1 : 1 ≤ 1 + c.tmod 12) (k2 : 1 + c.tmod 12 ≤ 12) (l : List Deed) (hf : ∀ a ∈ l, a.Fits) : LiOk (liRun c l) := by
  have gen : ∀ (l : List Deed) (s : LS), LiOk s → (∀ a ∈ l, a.Fits) → LiOk (l.foldl liStep s) := by
    intro l
    induction l with
    | nil => intro s h _; exact h
    | cons a l ih =>
      intro s h hf
      exact ih _ (h.act (hf a List.mem_cons_self)).1 fun b hb => hf b (List.mem_cons_of_mem _ hb)
  exact gen l _ (liOk_new k1 (by omega)) hf
end Go.Al
