/- Adaptive replacement, of keys that come once: it has what least recently used has. Conditions: none. -/
import Derived.Test.YtbdcmgcphhbpiaaAp2
import Derived.Test.YtbdcmgcphhbpiaaLr2
set_option linter.unusedVariables false
set_option linter.unusedSimpArgs false
namespace Go.Al
/-- Keys that come once: what least recently used has. -/
theorem arcAdmit_new {C : Int} {L : List Int} {k : Int} (c0 : 1 ≤ C) (hl : (L.length : Int) ≤ C) (hk : k ∉ L) : arcAdmit ⟨C, 0, L, [], [], []⟩ k = (⟨C, 0, lruAdmit C L k, [], [], []⟩, lruGone C L k) := by
  unfold arcAdmit lruAdmit lruGone
  rw [if_neg (by simpa using hk), if_neg (by simp), if_neg (by simp), if_neg hk, if_neg hk]
  unfold arcFresh
  by_cases h1 : (L.length : Int) < C
  · have e1 : cutTo L (C - 1) = L := by rw [cutTo_nat]; exact List.take_of_length_le (by omega)
    have e2 : fallen L (C - 1) = [] := by
      unfold fallen
      rw [List.drop_of_length_le (by omega)]; rfl
    simp [h1, e1, e2]
  · have hL : L ≠ [] := ne_len.2 (by omega)
    have e0 : (max (C - 1) 0).toNat = L.length - 1 := by omega
    have e1 : cutTo L (C - 1) = L.take (L.length - 1) := by unfold cutTo; rw [e0]
    have e2 : fallen L (C - 1) = [lastD L] := by
      unfold fallen
      rw [e0]
      have h2 := List.take_add_one (l := L) (i := L.length - 1)
      have h0 := List.length_pos_iff.2 hL
      rw [lastD_get hL, Nat.sub_add_cancel h0, List.take_length] at h2
      have h3 := List.take_append_drop (L.length - 1) L
      rw [h2] at h3
      have h4 : L.drop (L.length - 1) = [lastD L] := by
        have h5 : L.take (L.length - 1) ++ L.drop (L.length - 1) = L.take (L.length - 1) ++ [lastD L] := by
          rw [List.take_append_drop]; exact h2
        exact List.append_cancel_left h5
      rw [h4]; rfl
    simp [h1, e1, e2]
end Go.Al
