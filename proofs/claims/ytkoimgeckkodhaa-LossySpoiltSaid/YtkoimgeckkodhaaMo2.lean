/- Five policies as one kind of thing: each of them. Conditions: none. -/
import Derived.Test.YtkoimgeckkodhaaMo1
set_option linter.unusedVariables false
set_option linter.unusedSimpArgs false
set_option maxRecDepth 20000
set_option maxHeartbeats 3200000
namespace Go.Al
open Go.Proofs
/-! ### Least recently used -/
theorem lru_T (C : Int) (L : List Int) (k : Int) : lruDo C L (dT k) = (C, lruTouch L k, []) := if_pos (kT _ _)
theorem lru_A (C : Int) (L : List Int) (k : Int) : lruDo C L (dA k) = (C, lruAdmit C L k, lruGone C L k) := by
  unfold lruDo; rw [if_neg (by rw [kA]; omega), if_pos (kA _ _)]; rfl
theorem lru_D (C : Int) (L : List Int) (k : Int) : lruDo C L (dD k) = (C, without L k, []) := by
  unfold lruDo; rw [if_neg (by rw [kD]; omega), if_neg (by rw [kD]; omega), if_pos (kD _ _)]; rfl
theorem lru_R (C : Int) (L : List Int) {c : Int} (h0 : 1 ≤ c) (h1 : c ≤ 14) : lruDo C L (dR c) = (c, cutTo L c, fallen L c) := by
  unfold lruDo; rw [if_neg (by rw [kR']; omega), if_neg (by rw [kR']; omega), if_neg (by rw [kR']; omega), dR_size h0 h1, capOf_same (by omega) (by omega)]
theorem cut_iff {L : List Int} (z : Int) (h : L.Nodup) (x : Int) : x ∈ cutTo L z ↔ x ∈ L ∧ x ∉ fallen L z := by
  obtain ⟨_, _, h3⟩ := cut_apart z h
  rw [cut_mem L z x]
  exact ⟨fun hx => ⟨.inl hx, fun hf => h3 x hf hx⟩, fun ⟨hx, hf⟩ => hx.resolve_right hf⟩
def polLru : Pol where
  St := LR
  p := 1
  cel := xLru
  ok := LR.Ok
  ks := fun s => s.L
  new := fun c => ⟨c, []⟩
  touch := fun s k => LR.mk s.C (lruTouch s.L k)
  drop := fun s k => LR.mk s.C (without s.L k)
  admit := fun s k => (LR.mk s.C (lruAdmit s.C s.L k), lruGone s.C s.L k)
  resize := fun s c => (LR.mk c (cutTo s.L c), fallen s.L c)
  oNew := fun c h0 h1 => ⟨⟨h0, h1, by show ((0 : Nat) : Int) ≤ c; omega, List.nodup_nil⟩, rfl⟩
  nd := fun s ok => ⟨ok.nodup, by have h1 := ok.len; have h2 := ok.c1; omega⟩
  oTouch := fun s k ok hk => by
    have h := LruOk.act ok (dT_fits hk)
    rw [lru_T] at h
    refine ⟨h, fun x => ?_⟩
    show x ∈ lruTouch s.L k ↔ _
    unfold lruTouch
    split
    · rename_i hm
      rw [mem_front]
      exact ⟨fun h => h.elim (fun e => by rw [e]; exact hm) id, .inr⟩
    · exact Iff.rfl
  oDrop := fun s k ok hk => by
    have h := LruOk.act ok (dD_fits hk)
    rw [lru_D] at h
    exact ⟨h, fun x => mem_without⟩
  oAdmit := fun s k ok hk hn => by
    have h := LruOk.act ok (dA_fits hk)
    rw [lru_A] at h
    have hnd : s.L.Nodup := ok.nodup
    obtain ⟨c1, c2, c3⟩ := cut_apart (s.C - 1) hnd
    have e1 : lruGone s.C s.L k = fallen s.L (s.C - 1) := if_neg hn
    have e2 : lruAdmit s.C s.L k = k :: without (cutTo s.L (s.C - 1)) k := if_neg hn
    refine ⟨h, ?_, ?_, fun x => ?_⟩
    · show (lruGone s.C s.L k).Nodup
      rw [e1]; exact c2
    · show ∀ x ∈ lruGone s.C s.L k, x ∈ s.L
      rw [e1]; exact fun x hx => (cut_mem s.L (s.C - 1) x).2 (.inr hx)
    · show x ∈ lruAdmit s.C s.L k ↔ x = k ∨ (x ∈ s.L ∧ x ∉ lruGone s.C s.L k)
      rw [e1, e2, mem_front, cut_iff (s.C - 1) hnd x]
  oResize := fun s c ok h0 h1 => by
    have h := LruOk.act ok (dR_fits h0 h1)
    rw [lru_R _ _ h0 h1] at h
    have hnd : s.L.Nodup := ok.nodup
    obtain ⟨c1, c2, c3⟩ := cut_apart c hnd
    exact ⟨h, c2, fun x hx => (cut_mem s.L c x).2 (.inr hx), fun x => cut_iff c hnd x⟩
  cNew := pNew1
  cKeys := fun s P h m e ok => pKeys1 s P h m e ok
  cTouch := fun s P h m e k ok => pTouch1 s P h m e k ok
  cDrop := fun s P h m e k ok => pDrop1 s P h m e k ok
  cAdmit := fun s P h m e k ok => pAdmit1 s P h m e k ok
  cResize := fun s P h m e c ok h0 h1 => pResize1 s P h m e c ok h0 h1
/-! ### Two queues -/
theorem tq_T (C : Int) (s : TQ) (k : Int) : tqDo C s (dT k) = (C, tqTouch s k, []) := if_pos (kT _ _)
theorem tq_A (C : Int) (s : TQ) (k : Int) : tqDo C s (dA k) = (C, (tqAdmit C s k).1, (tqAdmit C s k).2) := by
  unfold tqDo; rw [if_neg (by rw [kA]; omega), if_pos (kA _ _)]; rfl
theorem tq_D (C : Int) (s : TQ) (k : Int) : tqDo C s (dD k) = (C, ⟨without s.I k, without s.O k, without s.M k⟩, []) := by
  unfold tqDo; rw [if_neg (by rw [kD]; omega), if_neg (by rw [kD]; omega), if_pos (kD _ _)]; rfl
theorem tq_R (C : Int) (s : TQ) {c : Int} (h0 : 1 ≤ c) (h1 : c ≤ 14) : tqDo C s (dR c) = (c, (tqResize s c).1, (tqResize s c).2) := by
  unfold tqDo; rw [if_neg (by rw [kR']; omega), if_neg (by rw [kR']; omega), if_neg (by rw [kR']; omega), dR_size h0 h1, capOf_same (by omega) (by omega)]
theorem tq_come (C : Int) (s : TQ) (k : Int) (h : k ∉ s.I ++ s.M) : k ∈ (tqAdmit C s k).1.I ++ (tqAdmit C s k).1.M := by
  unfold tqAdmit
  rw [if_neg h]
  split
  · exact List.mem_append_right _ List.mem_cons_self
  · exact List.mem_append_left _ List.mem_cons_self
theorem tq_nd {C : Int} {s : TQ} (h : TqOk C s) : (s.I ++ s.M).Nodup := List.nodup_append.2 ⟨h.sep.nI, h.sep.nM, fun a ha b hb e => h.sep.dIM a ha (by rw [e]; exact hb)⟩
def polTwo : Pol where
  St := TT
  p := 2
  cel := xTwo
  ok := TT.Ok
  ks := fun s => s.q.I ++ s.q.M
  new := fun c => ⟨c, ⟨[], [], []⟩⟩
  touch := fun s k => TT.mk s.C (tqTouch s.q k)
  drop := fun s k => TT.mk s.C ⟨without s.q.I k, without s.q.O k, without s.q.M k⟩
  admit := fun s k => (TT.mk s.C (tqAdmit s.C s.q k).1, (tqAdmit s.C s.q k).2)
  resize := fun s c => (TT.mk c (tqResize s.q c).1, (tqResize s.q c).2)
  oNew := fun c h0 h1 => by
    have hd : (0 : Int) ≤ c.tdiv 2 := Int.tdiv_nonneg (by omega) (by omega)
    exact ⟨⟨⟨h0, h1, by show ((0 : Nat) : Int) ≤ c; omega, by simp⟩, ⟨List.nodup_nil, List.nodup_nil, List.nodup_nil, fun x hx => (nomatch hx), fun x hx => (nomatch hx), fun x hx => (nomatch hx)⟩, by show ((0 : Nat) : Int) ≤ c.tdiv 2; omega⟩, rfl⟩
  nd := fun s ok => ⟨tq_nd ok, by rw [List.length_append]; exact (two_len ok).2.2.2.2.2⟩
  oTouch := fun s k ok hk => by
    obtain ⟨h1, h2⟩ := TqOk.act ok (dT_fits hk)
    rw [tq_T, kT] at h2
    rw [tq_T] at h1
    exact ⟨h1, fun x => ev_touch h2 (tq_nd ok) x⟩
  oDrop := fun s k ok hk => by
    obtain ⟨h1, h2⟩ := TqOk.act ok (dD_fits hk)
    rw [tq_D, kD] at h2
    rw [tq_D] at h1
    exact ⟨h1, fun x => ev_drop h2 (tq_nd ok) x⟩
  oAdmit := fun s k ok hk hn => by
    obtain ⟨h1, h2⟩ := TqOk.act ok (dA_fits hk)
    rw [tq_A, kA] at h2
    rw [tq_A] at h1
    have h2 : EvOk (s.q.I ++ s.q.M) ((tqAdmit s.C s.q k).1.I ++ (tqAdmit s.C s.q k).1.M) (tqAdmit s.C s.q k).2 2 (decide (k ∈ s.q.I ++ s.q.M)) k (sizeOf' (dA k)) := h2
    rw [decide_eq_false hn] at h2
    exact ⟨h1, apart_iff.1 h2.ap, fun x hx => (h2.e1 x hx).1, fun x => ev_admit h2 (tq_nd ok) hn (tq_come s.C s.q k hn) x⟩
  oResize := fun s c ok h0 h1 => by
    obtain ⟨g1, g2⟩ := TqOk.act ok (dR_fits h0 h1)
    rw [tq_R _ _ h0 h1, kR'] at g2
    rw [tq_R _ _ h0 h1] at g1
    exact ⟨g1, apart_iff.1 g2.ap, fun x hx => (g2.e1 x hx).1, fun x => ev_resize g2 (tq_nd ok) x⟩
  cNew := pNew2
  cKeys := fun s P h m e ok => pKeys2 s P h m e ok
  cTouch := fun s P h m e k ok => pTouch2 s P h m e k ok
  cDrop := fun s P h m e k ok => pDrop2 s P h m e k ok
  cAdmit := fun s P h m e k ok => pAdmit2 s P h m e k ok
  cResize := fun s P h m e c ok h0 h1 => pResize2 s P h m e c ok h0 h1
/-! ### A small queue, a main one and ghosts -/
def polSth : Pol where
  St := S3
  p := 3
  cel := xSth
  ok := S3Ok
  ks := ks3
  new := fun c => ⟨c, [], [], []⟩
  touch := s3Touch
  drop := s3Drop
  admit := s3Admit
  resize := s3Resize
  oNew := fun c h0 h1 => ⟨s3new_ok h0 h1, rfl⟩
  nd := fun s ok => ⟨ok.b.nd, by rw [ks3_len]; exact ok.b.le⟩
  oTouch := fun s k ok hk => by
    obtain ⟨h1, h2⟩ := ok.touch k
    exact ⟨h1, fun x => by rw [h2]⟩
  oDrop := fun s k ok hk => by
    obtain ⟨h1, h2⟩ := ok.drop k
    exact ⟨h1, fun x => by rw [h2]; exact mem_without⟩
  oAdmit := fun s k ok hk hn => by
    obtain ⟨h1, R, h2, h3⟩ := ok.admit hn
    obtain ⟨g1, g2, g3⟩ := perm_out (N := []) ok.b.nd h2
    exact ⟨h1, g1, g2, fun x => by rw [h3.mem_iff, List.mem_cons, g3]⟩
  oResize := fun s c ok h0 h1 => by
    have hc := capOf_same h0 (by omega)
    obtain ⟨h1, R, h2, h3, _⟩ := ok.resize (c := c) (by omega) (by omega)
    obtain ⟨g1, g2, g3⟩ := perm_out (N := []) ok.b.nd h2
    exact ⟨h1, g1, g2, fun x => by rw [h3.mem_iff, g3]⟩
  cNew := pNew3
  cKeys := fun s P h m e ok => pKeys3 s P h m e ok
  cTouch := fun s P h m e k ok => pTouch3 s P h m e k ok
  cDrop := fun s P h m e k ok => pDrop3 s P h m e k ok
  cAdmit := fun s P h m e k ok => pAdmit3 s P h m e k ok
  cResize := fun s P h m e c ok h0 h1 => pResize3 s P h m e c ok h0 h1
/-! ### Adaptive replacement -/
theorem arc_T (s : ARC) (k : Int) : arcDo s (dT k) = (arcTouch s k, []) := if_pos (kT _ _)
theorem arc_A (s : ARC) (k : Int) : arcDo s (dA k) = arcAdmit s k := by
  unfold arcDo; rw [if_neg (by rw [kA]; omega), if_pos (kA _ _)]; rfl
theorem arc_D (s : ARC) (k : Int) : arcDo s (dD k) = (arcDrop s k, []) := by
  unfold arcDo; rw [if_neg (by rw [kD]; omega), if_neg (by rw [kD]; omega), if_pos (kD _ _)]; rfl
theorem arc_R (s : ARC) {c : Int} (h0 : 1 ≤ c) (h1 : c ≤ 14) : arcDo s (dR c) = arcResize s c := by
  unfold arcDo; rw [if_neg (by rw [kR']; omega), if_neg (by rw [kR']; omega), if_neg (by rw [kR']; omega), dR_size h0 h1]
theorem arc_come (s : ARC) (k : Int) (h : k ∉ s.A ++ s.B) : k ∈ (arcAdmit s k).1.A ++ (arcAdmit s k).1.B := by
  unfold arcAdmit
  rw [if_neg h]
  split
  · exact List.mem_append_right _ List.mem_cons_self
  split
  · exact List.mem_append_right _ List.mem_cons_self
  · exact List.mem_append_left _ List.mem_cons_self
theorem arc_nd {s : ARC} (h : ArcOk s) : (s.A ++ s.B).Nodup := by
  rw [List.nodup_iff_count]
  intro x
  rw [List.count_append]
  have := h.sep x
  omega
def polArc : Pol where
  St := ARC
  p := 4
  cel := xArc
  ok := ArcOk
  ks := fun s => s.A ++ s.B
  new := fun c => ⟨c, 0, [], [], [], []⟩
  touch := arcTouch
  drop := arcDrop
  admit := arcAdmit
  resize := arcResize
  oNew := fun c h0 h1 => by
    refine ⟨⟨h0, h1, by show (0 : Int) ≤ 0; omega, by show (0 : Int) ≤ c; omega, by show ((0 : Nat) : Int) + ((0 : Nat) : Int) ≤ c; omega, by show ((0 : Nat) : Int) + ((0 : Nat) : Int) ≤ c; omega, by show ((0 : Nat) : Int) + ((0 : Nat) : Int) ≤ c; omega, fun x => by simp⟩, rfl⟩
  nd := fun s ok => ⟨arc_nd ok, by rw [List.length_append]; have h1 := ok.ab; have h2 := ok.c1; omega⟩
  oTouch := fun s k ok hk => by
    obtain ⟨h1, h2⟩ := ArcOk.act ok (dT_fits hk)
    rw [arc_T, kT] at h2
    rw [arc_T] at h1
    exact ⟨h1, fun x => ev_touch h2 (arc_nd ok) x⟩
  oDrop := fun s k ok hk => by
    obtain ⟨h1, h2⟩ := ArcOk.act ok (dD_fits hk)
    rw [arc_D, kD] at h2
    rw [arc_D] at h1
    exact ⟨h1, fun x => ev_drop h2 (arc_nd ok) x⟩
  oAdmit := fun s k ok hk hn => by
    obtain ⟨h1, h2⟩ := ArcOk.act ok (dA_fits hk)
    rw [arc_A, kA] at h2
    rw [arc_A] at h1
    have h2 : EvOk (s.A ++ s.B) ((arcAdmit s k).1.A ++ (arcAdmit s k).1.B) (arcAdmit s k).2 2 (decide (k ∈ s.A ++ s.B)) k (sizeOf' (dA k)) := h2
    rw [decide_eq_false hn] at h2
    exact ⟨h1, apart_iff.1 h2.ap, fun x hx => (h2.e1 x hx).1, fun x => ev_admit h2 (arc_nd ok) hn (arc_come s k hn) x⟩
  oResize := fun s c ok h0 h1 => by
    obtain ⟨g1, g2⟩ := ArcOk.act ok (dR_fits h0 h1)
    rw [arc_R _ h0 h1, kR'] at g2
    rw [arc_R _ h0 h1] at g1
    exact ⟨g1, apart_iff.1 g2.ap, fun x hx => (g2.e1 x hx).1, fun x => ev_resize g2 (arc_nd ok) x⟩
  cNew := pNew4
  cKeys := fun s P h m e ok => pKeys4 s P h m e ok
  cTouch := fun s P h m e k ok => pTouch4 s P h m e k ok
  cDrop := fun s P h m e k ok => pDrop4 s P h m e k ok
  cAdmit := fun s P h m e k ok => pAdmit4 s P h m e k ok
  cResize := fun s P h m e c ok h0 h1 => pResize4 s P h m e c ok h0 h1
/-! ### Low inter-reference recency -/
def polLir : Pol where
  St := K12.LS
  p := 5
  cel := xLir
  ok := K12.LiOk
  ks := K12.liKeys
  new := fun c => ⟨c, [], []⟩
  touch := K12.liTouch
  drop := K12.liDrop
  admit := K12.liAdmit
  resize := K12.liResize
  oNew := fun c h0 h1 => ⟨K12.liOk_new h0 h1, rfl⟩
  nd := fun s ok => ⟨ok.keys, by have h1 := ok.keys_len; have h2 := ok.c1; omega⟩
  oTouch := fun s k ok hk => by
    obtain ⟨h1, h2⟩ := ok.touch k
    exact ⟨h1, fun x => h2.mem_iff⟩
  oDrop := fun s k ok hk => by
    obtain ⟨h1, h2⟩ := ok.drop k
    exact ⟨h1, fun x => by rw [h2]; exact mem_without⟩
  oAdmit := fun s k ok hk hn => by
    obtain ⟨h1, R, h2, h3⟩ := ok.admit hn
    obtain ⟨g1, g2, g3⟩ := perm_out (N := []) ok.keys h2
    exact ⟨h1, g1, g2, fun x => by rw [h3.mem_iff, List.mem_cons, g3]⟩
  oResize := fun s c ok h0 h1 => by
    have hc := capOf_same h0 (by omega)
    obtain ⟨h1, R, h2, h3, _⟩ := ok.resize (c := c) (by omega) (by omega)
    obtain ⟨g1, g2, g3⟩ := perm_out (N := []) ok.keys h2
    exact ⟨h1, g1, g2, fun x => by rw [h3.mem_iff, g3]⟩
  cNew := pNew5
  cKeys := fun s P h m e ok => pKeys5 s P h m e ok
  cTouch := fun s P h m e k ok => pTouch5 s P h m e k ok
  cDrop := fun s P h m e k ok => pDrop5 s P h m e k ok
  cAdmit := fun s P h m e k ok => pAdmit5 s P h m e k ok
  cResize := fun s P h m e c ok h0 h1 => pResize5 s P h m e c ok h0 h1
end Go.Al
