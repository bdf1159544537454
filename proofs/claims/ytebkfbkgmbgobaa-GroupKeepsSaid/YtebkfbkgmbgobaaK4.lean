/-
  GroupKeeps: the plain law, joined.
-/
import Derived.Test.YtebkfbkgmbgobaaK3
namespace Go.Proofs.Ytebkfbkgmbgobaa
open Go.RowKit

theorem p_law16_great_2 (o p o' p' : Int) (l l' : List Sp) : m_law16_great_2 std o p o' p' l l' = some (decide (40 < l.length) || decide (40 < l'.length)) := by
  rw [m_law16_great_2_eq, m_slices_ContainsFunc_3_eq, m_slices_IndexFunc_3_eq, m_law16_great_1_eq, m_law16_great_1_eq]
  simp only [Option.bind_some]
  by_cases h : 40 < l.length
  · rw [dT (show (40 : Int) < (l.length : Int) by omega), dT h]; rfl
  · rw [dF (show ¬ (40 : Int) < (l.length : Int) by omega), dF h]
    by_cases h' : 40 < l'.length
    · rw [dT (show (40 : Int) < (l'.length : Int) by omega), dT h']; rfl
    · rw [dF (show ¬ (40 : Int) < (l'.length : Int) by omega), dF h']; rfl
theorem pl_GroupKeeps (co cp io ip P m k : Int) (cl il l : List Sp) : m_law16_GroupKeeps std co cp io ip P m k cl il l = some true := by
  rw [m_law16_GroupKeeps_eq]
  refine bB awake16 (bF rfl ?_)
  have hg := p_law16_great_2 co cp io ip cl il
  by_cases g1 : 40 < cl.length
  · exact bB (v := true) (bB hg (bT (by rw [dT g1]; rfl) rfl)) (bT rfl rfl)
  by_cases g2 : 40 < il.length
  · exact bB (v := true) (bB hg (bT (by rw [dT g2]; simp) rfl)) (bT rfl rfl)
  have hg' : (decide (40 < cl.length) || decide (40 < il.length)) = false := by rw [dF g1, dF g2]; rfl
  by_cases g3 : 40 < l.length
  · exact bB (v := true) (bB hg (bF hg' (bT (dT (by omega)) rfl))) (bT rfl rfl)
  have hV1 := p_granule_Valid co cp cl (by omega)
  have hV2 := p_granule_Valid io ip il (by omega)
  cases hv1 : validB co cp cl with
  | false =>
    rw [hv1] at hV1
    exact bB (v := true) (bB hg (bF hg' (bF (dF (by omega)) (bB hV1 (bT rfl rfl))))) (bT rfl rfl)
  | true =>
  rw [hv1] at hV1
  cases hv2 : validB io ip il with
  | false =>
    rw [hv2] at hV2
    exact bB (v := true) (bB hg (bF hg' (bF (dF (by omega)) (bB hV1 (bF rfl (bB hV2 (bT rfl rfl))))))) (bT rfl rfl)
  | true =>
  rw [hv2] at hV2
  have hc := Vd.of hv1
  have hi := Vd.of hv2
  by_cases g4 : k < -1000
  · exact bB (v := true) (bB hg (bF hg' (bF (dF (by omega)) (bB hV1 (bF rfl (bB hV2 (bF rfl (bT (dT g4) rfl)))))))) (bT rfl rfl)
  by_cases g5 : 1000 < k
  · exact bB (v := true) (bB hg (bF hg' (bF (dF (by omega)) (bB hV1 (bF rfl (bB hV2 (bF rfl (bF (dF g4) (bT (dT g5) rfl))))))))) (bT rfl rfl)
  obtain ⟨b, hb⟩ := p_few hc hi
  refine bB (v := !b) (bB hg (bF hg' (bF (dF (by omega)) (bB hV1 (bF rfl (bB hV2 (bF rfl (bF (dF g4) (bF (dF g5) (bB hb rfl)))))))))) ?_
  cases b with
  | false => exact bT rfl rfl
  | true =>
  refine bF rfl ?_
  have hIn : (Option.bind (m_group_Inside std co cp io ip m cl il) fun (n160, n161, l106, n162) =>
        Option.bind (
          bif (!(n162 == 0)) then
            (some true)
          else
            Option.bind (m_law16_GroupKeeps_1 std n160 n161 l106 k co cp cl) fun b81 =>
            (some b81) : Option ((Bool))) fun x237 =>
        (some x237)) = some true := by
    by_cases hm : m = 0
    · exact bB (Inside_bad (.inr (.inr hm)) (by omega) (by omega)) rfl
    · rcases Inside_val (m := m) hc hi hm with ⟨hok, he⟩ | ⟨e, h0, he⟩
      · have hPL := hok.PL (m := m)
        have hmem : ∀ x ∈ fo (inN cp ip il) (inF co cp io ip m cl il), _ := fun x hx => in_mem hx
        obtain ⟨g, _, _, _, _, _, _, _, _, c1, _⟩ := comP_parts hc.p1 hi.p1
        generalize fo (inN cp ip il) (inF co cp io ip m cl il) = L at he hPL hmem
        refine bB he ?_
        by_cases h0 : L.length = 0
        · rw [if_pos h0]; rfl
        · rw [if_neg h0]
          have hP := hPL (by omega)
          unfold mkR
          cases hh : halfB (fr L 0) with
          | false => rfl
          | true => exact bB (v := true) (bF rfl (bB (there_ok (mkR_ok hP hh) hc (by omega) (by omega) (made_there hc hP c1 hmem k)) rfl)) rfl
      · exact bB he (bB (v := true) (bT (nT (eF h0)) rfl) rfl)
  by_cases hbad : ∃ e, e ≠ 0 ∧ m_group_Restrict std co cp P cl l = some (0, 0, [], e)
  · obtain ⟨e, h0, he⟩ := hbad
    exact bB he (bB (v := .inr ()) (bF (eF h0) rfl) hIn)
  cases hv3 : Pe.pvB P l with
  | false => exact absurd ⟨1, by omega, Restrict_bad (.inr hv3) (by omega)⟩ hbad
  | true =>
  have hv := Pe.pvB_iff.1 hv3
  by_cases hok : RsOk co cp P cl l
  · have hval := Restrict_val hok
    obtain ⟨L, hL⟩ : ∃ L, fo (rsN cp P cl) (rsF co cp P cl l) = L := ⟨_, rfl⟩
    have hPL := hok.PL
    rw [hL] at hval hPL
    by_cases h0 : L.length = 0
    · rw [if_pos h0] at hval; exact absurd ⟨_, by omega, hval⟩ hbad
    · rw [if_neg h0] at hval
      have hP := hPL (by omega)
      unfold mkR at hval
      cases hh : halfB (fr L 0) with
      | false => rw [hh] at hval; exact absurd ⟨_, by omega, hval⟩ hbad
      | true =>
        rw [hh] at hval
        obtain ⟨g, _, _, _, _, _, _, _, _, c1, _⟩ := comP_parts hc.p1 hv.p1
        have hx := mkR_ok hP hh
        have hmem : ∀ x ∈ L, ∃ q, x = (atF co cp cl q, atT co cp cl q) := fun x hx => by
          rw [← hL] at hx
          obtain ⟨j, _, hj⟩ := rs_mem hx
          exact ⟨j, hj⟩
        have hself := Restrict_self (rs_again hok hL hP hh) (fun k => rs_kept hok hL hP k)
        have hth := there_ok hx hc (k := k) (by omega) (by omega) (made_there hc hP c1 hmem k)
        have hs := p_ref16_Same (fr L 0) (ofP (comP cp P) L) hx.n5
        exact bB hval (bB (v := .inr ()) (bT rfl (bB hself (bB (v := false) (bB hth (bF rfl (bF rfl (bB hs rfl)))) (bF rfl rfl)))) hIn)
  · obtain ⟨e, h0, he⟩ := Restrict_no hc hv hok
    exact absurd ⟨e, h0, he⟩ hbad
end Go.Proofs.Ytebkfbkgmbgobaa
