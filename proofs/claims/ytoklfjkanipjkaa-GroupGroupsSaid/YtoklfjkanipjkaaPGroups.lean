/-
  GroupGroups, the plain law.
-/
import Derived.Test.YtoklfjkanipjkaaPGrp2
import Derived.Test.YtoklfjkanipjkaaGAwake
namespace Go.Proofs.Ytoklfjkanipjkaa
open Go.RowKit
theorem pl_GroupGroups (o p first mi : Int) (l : List Sp) : m_law16_GroupGroups std o p first mi l = some true := by
  rw [m_law16_GroupGroups_eq, awake16, p_law16_great]
  refine bB rfl (bF rfl (bB rfl ?_))
  by_cases hgr : 40 < l.length
  · exact bT (dT hgr) rfl
  refine bF (dF hgr) ?_
  have hV := p_ref16_Valid o p l (by omega)
  rw [hV]
  cases hv : validB o p l with
  | false => exact bB (Groups_bad (.inl hv) mi (by omega)) (bB rfl (bT rfl (bB is_bad rfl)))
  | true =>
    have hd := Vd.of hv
    by_cases hm : mi < 1 ∨ 12622780800 < mi
    · exact bB (Groups_bad2 hm (by omega)) (bB rfl (bF rfl (bB (rGroups_bad (by omega)) (bB is_bad rfl))))
    · by_cases hf : first < -268435456 ∨ 268435456 < first
      · exact bB (Groups_bad (.inr hf) mi (by omega)) (bB rfl (bF rfl (bB (rGroups_bad (by omega)) (bB is_bad rfl))))
      · obtain ⟨m, rfl⟩ : ∃ m : Nat, mi = m := ⟨mi.toNat, by omega⟩
        have e1 := p_group_Groups hd (first := first) (m := m) (by omega) (by omega) (by omega) (by omega)
        have e2 := p_ref16_Groups hd (first := first) (m := m) (by omega) (by omega) (by omega) (by omega)
        by_cases hb : bP p l m ≤ 12622780800
        · rw [if_pos hb] at e1 e2
          exact bB e1 (bB rfl (bF rfl (bB e2 (bB (mkR_is (grp_PL hd (by omega) (by omega) (by omega) hb)) rfl))))
        · rw [if_neg hb] at e1 e2
          exact bB e1 (bB rfl (bF rfl (bB e2 (bB (is_err (by omega)) rfl))))
end Go.Proofs.Ytoklfjkanipjkaa
