/- A small queue, a main one and ghosts, plainly: what acts make, and what stays so. Conditions: none. -/
import Derived.Test.YtkoimgeckkodhaaRqB
set_option linter.unusedVariables false
set_option linter.unusedSimpArgs false
namespace Go.Al
structure S3 where
  C : Int
  S : List (Int × Int)
  M : List (Int × Int)
  G : List Int
def tgt (C : Int) : Int := if C < 10 then 1 else C.tdiv 10
theorem tgt_le {C : Int} (h : 1 ≤ C) : 1 ≤ tgt C ∧ tgt C ≤ C := by
  unfold tgt
  split
  · omega
  · rw [Int.tdiv_eq_ediv_of_nonneg (by omega)]; omega
def lastP (l : List (Int × Int)) : Int × Int := l.getD (l.length - 1) (0, 0)
def initP (l : List (Int × Int)) : List (Int × Int) := l.take (l.length - 1)
theorem snocP {l : List (Int × Int)} (h : l ≠ []) : l = initP l ++ [lastP l] := by
  have h0 := List.length_pos_iff.2 h
  have h1 : l[l.length - 1]? = some (lastP l) := by
    unfold lastP
    rw [List.getD_eq_getElem?_getD, List.getElem?_eq_getElem (by omega)]; rfl
  have h2 := List.take_add_one (l := l) (i := l.length - 1)
  rw [h1, Nat.sub_add_cancel h0, List.take_length] at h2
  exact h2
theorem initP_snoc (A : List (Int × Int)) (x : Int × Int) : initP (A ++ [x]) = A := by
  unfold initP
  rw [List.length_append, List.length_singleton, Nat.add_sub_cancel, List.take_left]
theorem lastP_snoc (A : List (Int × Int)) (x : Int × Int) : lastP (A ++ [x]) = x := by
  unfold lastP
  rw [List.length_append, List.length_singleton, Nat.add_sub_cancel, List.getD_eq_getElem?_getD]
  simp
def sumF : List (Int × Int) → Nat
  | [] => 0
  | x :: l => x.2.toNat + sumF l
theorem sumF_append (a b : List (Int × Int)) : sumF (a ++ b) = sumF a + sumF b := by
  induction a with
  | nil => simp [sumF]
  | cons x a ih => simp only [List.cons_append, sumF, ih]; omega
theorem sumF_le {l : List (Int × Int)} (h : ∀ x ∈ l, 0 ≤ x.2 ∧ x.2 ≤ 3) : sumF l ≤ 3 * l.length := by
  induction l with
  | nil => simp [sumF]
  | cons x l ih =>
    have h1 := h x List.mem_cons_self
    have h2 := ih fun y hy => h y (List.mem_cons_of_mem _ hy)
    simp only [sumF, List.length_cons]; omega
/-- Which goes from the main queue, and what is left. -/
def fromM : Nat → List (Int × Int) → List (Int × Int) × Int
  | 0, M => (initP M, (lastP M).1)
  | f + 1, M => if (lastP M).2 ≤ 0 then (initP M, (lastP M).1) else fromM f (((lastP M).1, (lastP M).2 - 1) :: initP M)
def keyP (l : List (Int × Int)) : List Int := l.map Prod.fst
theorem keyP_append (a b : List (Int × Int)) : keyP (a ++ b) = keyP a ++ keyP b := List.map_append
theorem keyP_len (a : List (Int × Int)) : (keyP a).length = a.length := List.length_map _
def freqs (l : List (Int × Int)) : Prop := ∀ x ∈ l, 0 ≤ x.2 ∧ x.2 ≤ 3
theorem snoc_perm (A : List Int) (x : Int) : (x :: A).Perm (A ++ [x]) := (List.perm_append_singleton x A).symm
theorem fromM_ok : ∀ (f : Nat) (M : List (Int × Int)), M ≠ [] → freqs M → ((fromM f M).2 :: keyP (fromM f M).1).Perm (keyP M) ∧ freqs (fromM f M).1 ∧ (fromM f M).1.length + 1 = M.length := by
  intro f
  induction f with
  | zero =>
    intro M h hf
    have e := snocP h
    unfold fromM
    generalize initP M = A at *
    generalize lastP M = x at *
    subst e
    refine ⟨?_, fun y hy => hf y (List.mem_append_left _ hy), by simp⟩
    rw [keyP_append]
    exact snoc_perm _ _
  | succ f ih =>
    intro M h hf
    have e := snocP h
    unfold fromM
    generalize initP M = A at *
    generalize lastP M = x at *
    subst e
    split
    · refine ⟨?_, fun y hy => hf y (List.mem_append_left _ hy), by simp⟩
      rw [keyP_append]
      exact snoc_perm _ _
    · rename_i hx
      have hx3 := hf x (List.mem_append_right _ List.mem_cons_self)
      obtain ⟨h1, h2, h3⟩ := ih ((x.1, x.2 - 1) :: A) (by simp) (fun y hy => by
        rcases List.mem_cons.1 hy with rfl | hy
        · exact ⟨by show 0 ≤ x.2 - 1; omega, by show x.2 - 1 ≤ 3; omega⟩
        · exact hf y (List.mem_append_left _ hy))
      refine ⟨h1.trans ?_, h2, by rw [h3]; simp⟩
      rw [keyP_append]
      exact snoc_perm _ _
/-- All keys. -/
def ks3 (s : S3) : List Int := keyP s.S ++ keyP s.M
def outM (s : S3) : S3 × Int := (⟨s.C, s.S, (fromM (sumF s.M) s.M).1, s.G⟩, (fromM (sumF s.M) s.M).2)
def fromS : Nat → S3 → S3 × Int
  | 0, s => outM s
  | f + 1, s => if s.S = [] then outM s else if (lastP s.S).2 > 1 then fromS f ⟨s.C, initP s.S, ((lastP s.S).1, 0) :: s.M, s.G⟩ else (⟨s.C, initP s.S, s.M, cutTo ((lastP s.S).1 :: without s.G (lastP s.S).1) (s.C - tgt s.C)⟩, (lastP s.S).1)
def outS (s : S3) : S3 × Int := fromS s.S.length s
structure S3B (s : S3) : Prop where
  c0 : 1 ≤ s.C
  c1 : s.C ≤ 14
  nd : (ks3 s).Nodup
  fs : freqs s.S
  fm : freqs s.M
  g : s.G.length ≤ 14
  le : s.S.length + s.M.length ≤ 14
structure Went3 (s t : S3) (k : Int) : Prop where
  b : S3B t
  c : t.C = s.C
  pm : (k :: ks3 t).Perm (ks3 s)
  ln : t.S.length + t.M.length + 1 = s.S.length + s.M.length
theorem nodup_of_perm {k : Int} {a b : List Int} (h : (k :: a).Perm b) (hb : b.Nodup) : a.Nodup := (List.nodup_cons.1 (h.nodup_iff.2 hb)).2
theorem outM_ok {s : S3} (h : S3B s) (hm : s.M ≠ []) : Went3 s (outM s).1 (outM s).2 := by
  obtain ⟨h1, h2, h3⟩ := fromM_ok (sumF s.M) s.M hm h.fm
  have hp : ((outM s).2 :: ks3 (outM s).1).Perm (ks3 s) := by
    show (_ :: (keyP s.S ++ keyP _)).Perm (keyP s.S ++ keyP s.M)
    exact List.perm_middle.symm.trans (h1.append_left _)
  refine ⟨⟨h.c0, h.c1, nodup_of_perm hp h.nd, h.fs, h2, h.g, ?_⟩, rfl, hp, ?_⟩
  · show s.S.length + (fromM (sumF s.M) s.M).1.length ≤ 14
    have := h.le
    omega
  · show s.S.length + (fromM (sumF s.M) s.M).1.length + 1 = _
    omega
theorem fromS_ok : ∀ (f : Nat) (s : S3), s.S.length ≤ f → S3B s → s.S ≠ [] ∨ s.M ≠ [] → Went3 s (fromS f s).1 (fromS f s).2 := by
  intro f
  induction f with
  | zero =>
    intro s hf h hn
    have : s.S = [] := List.length_eq_zero_iff.1 (by omega)
    unfold fromS
    exact outM_ok h (hn.resolve_left fun h => h this)
  | succ f ih =>
    intro s hf h hn
    unfold fromS
    by_cases e : s.S = []
    · rw [if_pos e]
      exact outM_ok h (hn.resolve_left fun h => h e)
    · rw [if_neg e]
      have es := snocP e
      have hl := h.le
      have nd := h.nd
      have fs := h.fs
      unfold ks3 at nd
      generalize initP s.S = A at *
      generalize lastP s.S = x at *
      rw [es] at hl nd fs hf
      rw [keyP_append] at nd
      rw [List.length_append, List.length_singleton] at hl hf
      split
      · have hk : ks3 (S3.mk s.C A ((x.1, 0) :: s.M) s.G) = ks3 s := by
          unfold ks3
          rw [es, keyP_append]
          simp [keyP]
        obtain ⟨b, c, p, n⟩ := ih (S3.mk s.C A ((x.1, 0) :: s.M) s.G) (by show A.length ≤ f; omega) ⟨h.c0, h.c1, by rw [hk]; exact h.nd, fun y hy => fs y (List.mem_append_left _ hy), fun y hy => by
            rcases List.mem_cons.1 hy with rfl | hy
            · exact ⟨by show (0 : Int) ≤ 0; omega, by show (0 : Int) ≤ 3; omega⟩
            · exact h.fm y hy, h.g, by show A.length + (s.M.length + 1) ≤ 14; omega⟩ (.inr (by simp))
        refine ⟨b, c, by rw [← hk]; exact p, n.trans ?_⟩
        rw [es]
        simp
        omega
      · have hp : (x.1 :: (keyP A ++ keyP s.M)).Perm (ks3 s) := by
          unfold ks3
          rw [es, keyP_append, List.append_assoc]
          exact List.perm_middle.symm
        have ht := tgt_le h.c0
        have hc1 := h.c1
        refine ⟨⟨h.c0, h.c1, nodup_of_perm hp h.nd, fun y hy => fs y (List.mem_append_left _ hy), h.fm, ?_, by show A.length + s.M.length ≤ 14; omega⟩, rfl, hp, by rw [es]; simp; omega⟩
        have := cutTo_len (x.1 :: without s.G x.1) (s.C - tgt s.C) (by omega)
        show (cutTo _ _).length ≤ 14
        omega
def s3one (s : S3) : S3 × Int := if (s.S.length : Int) ≥ tgt s.C ∨ s.M = [] then outS s else outM s
theorem s3one_ok {s : S3} (h : S3B s) (hn : s.S ≠ [] ∨ s.M ≠ []) : Went3 s (s3one s).1 (s3one s).2 := by
  unfold s3one
  split
  · exact fromS_ok _ s (Nat.le_refl _) h hn
  · rename_i hc
    exact outM_ok h fun e => hc (.inr e)
def s3shr (z : Int) : Nat → S3 → List Int → S3 × List Int
  | 0, s, out => (s, out)
  | f + 1, s, out => if (s.S.length : Int) + s.M.length > z then s3shr z f (s3one s).1 (out ++ [(s3one s).2]) else (s, out)
def s3shrink (z : Int) (s : S3) : S3 × List Int := s3shr z (s.S.length + s.M.length) s []
theorem s3shr_ok (z : Int) (z0 : 0 ≤ z) : ∀ (f : Nat) (s : S3) (out : List Int), s.S.length + s.M.length = f → S3B s → S3B (s3shr z f s out).1 ∧ (s3shr z f s out).1.C = s.C ∧ ((s3shr z f s out).2 ++ ks3 (s3shr z f s out).1).Perm (out ++ ks3 s) ∧ ((s3shr z f s out).1.S.length + (s3shr z f s out).1.M.length : Int) = min ((s.S.length : Int) + s.M.length) z := by
  intro f
  induction f with
  | zero =>
    intro s out hf h
    unfold s3shr
    exact ⟨h, rfl, List.Perm.refl _, by simp only; omega⟩
  | succ f ih =>
    intro s out hf h
    unfold s3shr
    split
    · rename_i hc
      obtain ⟨b, c, p, n⟩ := s3one_ok h (by
        by_cases e : s.S = []
        · right; intro e2; rw [e, e2] at hf; simp at hf
        · exact .inl e)
      obtain ⟨g1, g2, g3, g4⟩ := ih (s3one s).1 (out ++ [(s3one s).2]) (by omega) b
      refine ⟨g1, g2.trans c, g3.trans ?_, by rw [g4]; omega⟩
      rw [List.append_assoc]
      exact p.append_left _
    · rename_i hc
      exact ⟨h, rfl, List.Perm.refl _, by simp only; omega⟩
theorem s3shrink_ok {z : Int} (z0 : 0 ≤ z) {s : S3} (h : S3B s) : S3B (s3shrink z s).1 ∧ (s3shrink z s).1.C = s.C ∧ ((s3shrink z s).2 ++ ks3 (s3shrink z s).1).Perm (ks3 s) ∧ ((s3shrink z s).1.S.length + (s3shrink z s).1.M.length : Int) = min ((s.S.length : Int) + s.M.length) z := s3shr_ok z z0 _ s [] rfl h
def used3 (l : List (Int × Int)) (k : Int) : List (Int × Int) := l.map fun x => if x.1 = k ∧ x.2 < 3 then (x.1, x.2 + 1) else x
def without3 (l : List (Int × Int)) (k : Int) : List (Int × Int) := l.filter fun x => decide (x.1 ≠ k)
theorem used3_len (l : List (Int × Int)) (k : Int) : (used3 l k).length = l.length := List.length_map _
theorem without3_len (l : List (Int × Int)) (k : Int) : (without3 l k).length ≤ l.length := List.length_filter_le _ _
theorem keyP_used (l : List (Int × Int)) (k : Int) : keyP (used3 l k) = keyP l := by
  unfold keyP used3
  rw [List.map_map]
  apply List.map_congr_left
  intro x hx
  simp only [Function.comp]
  split <;> rfl
theorem keyP_without (l : List (Int × Int)) (k : Int) : keyP (without3 l k) = without (keyP l) k := by
  unfold keyP without3 without
  rw [List.filter_map]
  rfl
theorem freqs_used {l : List (Int × Int)} (h : freqs l) (k : Int) : freqs (used3 l k) := by
  intro x hx
  obtain ⟨y, hy, rfl⟩ := List.mem_map.1 hx
  have := h y hy
  split
  · exact ⟨by show 0 ≤ y.2 + 1; omega, by show y.2 + 1 ≤ 3; omega⟩
  · exact this
def s3Touch (s : S3) (k : Int) : S3 := ⟨s.C, used3 s.S k, used3 s.M k, s.G⟩
def s3Come (g : Bool) (t : S3) (k : Int) : S3 := if g then ⟨t.C, t.S, (k, 0) :: t.M, t.G⟩ else ⟨t.C, (k, 0) :: t.S, t.M, t.G⟩
def s3Admit (s : S3) (k : Int) : S3 × List Int :=
  if k ∈ ks3 s then (s, []) else (s3Come (decide (k ∈ s.G)) (s3shrink (s.C - 1) ⟨s.C, s.S, s.M, without s.G k⟩).1 k, (s3shrink (s.C - 1) ⟨s.C, s.S, s.M, without s.G k⟩).2)
def s3Drop (s : S3) (k : Int) : S3 := ⟨s.C, without3 s.S k, without3 s.M k, without s.G k⟩
def s3fall (s : S3) : S3 := ⟨s.C, s.S, s.M, cutTo s.G (s.C - tgt s.C)⟩
def s3Resize (s : S3) (c : Int) : S3 × List Int := (s3fall (s3shrink (capOf c) ⟨capOf c, s.S, s.M, s.G⟩).1, (s3shrink (capOf c) ⟨capOf c, s.S, s.M, s.G⟩).2)
structure S3Ok (s : S3) : Prop where
  b : S3B s
  ln : (s.S.length : Int) + s.M.length ≤ s.C
theorem S3Ok.len {s : S3} (h : S3Ok s) : ((ks3 s).length : Int) ≤ s.C := by
  unfold ks3
  rw [List.length_append, keyP_len, keyP_len]
  have := h.ln
  omega
theorem ks3_len (s : S3) : (ks3 s).length = s.S.length + s.M.length := by unfold ks3; rw [List.length_append, keyP_len, keyP_len]
theorem s3new_ok {C : Int} (h0 : 1 ≤ C) (h1 : C ≤ 14) : S3Ok ⟨C, [], [], []⟩ :=
  ⟨⟨h0, h1, List.nodup_nil, fun x hx => (nomatch hx), fun x hx => (nomatch hx), by simp, by simp⟩, by show ((0 : Nat) : Int) + ((0 : Nat) : Int) ≤ C; omega⟩
theorem S3Ok.touch {s : S3} (h : S3Ok s) (k : Int) : S3Ok (s3Touch s k) ∧ ks3 (s3Touch s k) = ks3 s := by
  have hk : ks3 (s3Touch s k) = ks3 s := by
    unfold ks3 s3Touch
    simp only [keyP_used]
  have hb := h.b
  refine ⟨⟨⟨hb.c0, hb.c1, by rw [hk]; exact hb.nd, freqs_used hb.fs k, freqs_used hb.fm k, hb.g, ?_⟩, ?_⟩, hk⟩
  · show (used3 s.S k).length + (used3 s.M k).length ≤ 14
    rw [used3_len, used3_len]; exact hb.le
  · show ((used3 s.S k).length : Int) + (used3 s.M k).length ≤ s.C
    rw [used3_len, used3_len]; exact h.ln
theorem S3Ok.drop {s : S3} (h : S3Ok s) (k : Int) : S3Ok (s3Drop s k) ∧ ks3 (s3Drop s k) = without (ks3 s) k := by
  have hk : ks3 (s3Drop s k) = without (ks3 s) k := by
    unfold ks3 s3Drop
    simp only [keyP_without]
    unfold without
    rw [List.filter_append]
  have hb := h.b
  have h1 := without3_len s.S k
  have h2 := without3_len s.M k
  have h3 := without_len s.G k
  have h4 := hb.le
  have h5 := h.ln
  have h6 := hb.g
  refine ⟨⟨⟨hb.c0, hb.c1, by rw [hk]; exact without_nodup _ hb.nd, fun x hx => hb.fs x (List.filter_sublist.subset hx), fun x hx => hb.fm x (List.filter_sublist.subset hx), ?_, ?_⟩, ?_⟩, hk⟩
  · show (without s.G k).length ≤ 14; omega
  · show (without3 s.S k).length + (without3 s.M k).length ≤ 14; omega
  · show ((without3 s.S k).length : Int) + (without3 s.M k).length ≤ s.C; omega
theorem s3B_less {s : S3} (h : S3B s) (k : Int) : S3B ⟨s.C, s.S, s.M, without s.G k⟩ := by
  have h3 := without_len s.G k
  have h6 := h.g
  exact ⟨h.c0, h.c1, h.nd, h.fs, h.fm, by show (without s.G k).length ≤ 14; omega, h.le⟩
theorem S3Ok.admit {s : S3} (h : S3Ok s) {k : Int} (hk : k ∉ ks3 s) : S3Ok (s3Admit s k).1 ∧ ∃ R, ((s3Admit s k).2 ++ R).Perm (ks3 s) ∧ (ks3 (s3Admit s k).1).Perm (k :: R) := by
  have hb := h.b
  have hc0 := hb.c0
  have hc1 := hb.c1
  obtain ⟨g1, g2, g3, g4⟩ := s3shrink_ok (z := s.C - 1) (by omega) (s3B_less hb k)
  unfold s3Admit
  rw [if_neg hk]
  simp only at g2 g4
  change List.Perm (_ ++ _) (ks3 s) at g3
  generalize s3shrink (s.C - 1) ⟨s.C, s.S, s.M, without s.G k⟩ = r at *
  obtain ⟨t, out⟩ := r
  simp only at g1 g2 g3 g4 ⊢
  have hkt : k ∉ ks3 t := fun hm => hk (g3.subset (List.mem_append_right _ hm))
  have hp : (ks3 (s3Come (decide (k ∈ s.G)) t k)).Perm (k :: ks3 t) := by
    unfold s3Come
    split
    · exact List.perm_middle
    · exact List.Perm.refl _
  have hl : (s3Come (decide (k ∈ s.G)) t k).S.length + (s3Come (decide (k ∈ s.G)) t k).M.length = t.S.length + t.M.length + 1 := by
    unfold s3Come
    split
    · show t.S.length + (t.M.length + 1) = _; omega
    · show t.S.length + 1 + t.M.length = _; omega
  have hC : (s3Come (decide (k ∈ s.G)) t k).C = t.C := by unfold s3Come; split <;> rfl
  have hG : (s3Come (decide (k ∈ s.G)) t k).G = t.G := by unfold s3Come; split <;> rfl
  have z0 : ∀ (l : List (Int × Int)), freqs l → freqs ((k, 0) :: l) := fun l hl y hy => by
    rcases List.mem_cons.1 hy with rfl | hy
    · exact ⟨by show (0 : Int) ≤ 0; omega, by show (0 : Int) ≤ 3; omega⟩
    · exact hl y hy
  have hS : freqs (s3Come (decide (k ∈ s.G)) t k).S := by
    unfold s3Come
    split
    · exact g1.fs
    · exact z0 _ g1.fs
  have hM : freqs (s3Come (decide (k ∈ s.G)) t k).M := by
    unfold s3Come
    split
    · exact z0 _ g1.fm
    · exact g1.fm
  refine ⟨⟨⟨by rw [hC, g2]; exact hc0, by rw [hC, g2]; exact hc1, hp.nodup_iff.2 (List.nodup_cons.2 ⟨hkt, g1.nd⟩), hS, hM, by rw [hG]; exact g1.g, by omega⟩, by rw [hC, g2]; omega⟩, ks3 t, g3, hp⟩
theorem S3Ok.resize {s : S3} (h : S3Ok s) {c : Int} (h0 : 1 ≤ capOf c) (h1 : capOf c ≤ 14) : S3Ok (s3Resize s c).1 ∧ ∃ R, ((s3Resize s c).2 ++ R).Perm (ks3 s) ∧ (ks3 (s3Resize s c).1).Perm R ∧ ((s3Resize s c).2.length : Int) = max (((ks3 s).length : Int) - capOf c) 0 := by
  have hb := h.b
  obtain ⟨g1, g2, g3, g4⟩ := s3shrink_ok (z := capOf c) (by omega) (s := ⟨capOf c, s.S, s.M, s.G⟩) ⟨h0, h1, hb.nd, hb.fs, hb.fm, hb.g, hb.le⟩
  unfold s3Resize
  simp only at g2 g4
  change List.Perm (_ ++ _) (ks3 s) at g3
  generalize s3shrink (capOf c) ⟨capOf c, s.S, s.M, s.G⟩ = r at *
  obtain ⟨t, out⟩ := r
  simp only at g1 g2 g3 g4 ⊢
  have hl := g3.length_eq
  have hkl := ks3_len t
  have hks := ks3_len s
  have ht := tgt_le g1.c0
  have hc1 := g1.c1
  have hcut := cutTo_len t.G (t.C - tgt t.C) (by omega)
  rw [List.length_append] at hl
  refine ⟨⟨⟨g1.c0, g1.c1, g1.nd, g1.fs, g1.fm, by show (cutTo _ _).length ≤ 14; omega, g1.le⟩, by show (t.S.length : Int) + t.M.length ≤ t.C; omega⟩, ks3 t, g3, List.Perm.refl _, by omega⟩
def s3Do (s : S3) (a : Deed) : S3 × List Int :=
  if kindOf a (decide (a.key ∈ ks3 s)) = 1 then (s3Touch s a.key, [])
  else if kindOf a (decide (a.key ∈ ks3 s)) = 2 then s3Admit s a.key
  else if kindOf a (decide (a.key ∈ ks3 s)) = 3 then (s3Drop s a.key, [])
  else s3Resize s (sizeOf' a)
end Go.Al
