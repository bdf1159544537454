/-
  RecurrenceForms: the call returns true for every input, and each argument reads behind it as it read before. No condition.
-/
import Derived.Test.YtmnhfaaaaejpaaaGreatRows
import Derived.Test.YtmnhfaaaaejpaaaGreatYOpen
import Derived.Test.YtmnhfaaaaejpaaaGreatRecurrenceFormsW
import Derived.Below
import Derived.Carry
namespace Go.Proofs.YtmnhfaaaaejpaaaGreat
open Go.ChangeShapes Go.WideShapes Go.ChangeAt Go.RowKit

set_option maxRecDepth 100000 in
theorem recurrenceForms_lifted (os : Os) (started : os.Started) (H : Type) (enc : TypeId × Value → H) :
    ReturnsInHanded {} Tryz.checked os 3 .any (Rows.recurrenceFormsSpec.pre6 enc Tryz.prog Tryz.f3 Rows.recurrenceFormsRow.domain false) (Rows.recurrenceFormsSpec.post enc Tryz.prog Tryz.f3 false true false false) := by
  refine returnsInHanded_of_change (C := Tryz.checked) own started (by kernel_rfl) Tryz.func3
    (ChangeSpec.witness6 (enc := enc) (C := Tryz.checked) false ⟨#[], #[.agg #[.int .i64 0, .int .i64 0, .int .i64 0, .int .i64 0, .slice none 0 0, .slice none 0 0, .slice none 0 0, .slice none 0 0, .slice none 0 0, .slice none 0 0, .slice none 0 0, .slice none 0 0, .slice none 0 0, .int .i64 0], .agg #[.int .i64 0, .int .i64 0, .int .i64 0, .int .i64 0, .slice none 0 0, .slice none 0 0, .slice none 0 0, .slice none 0 0, .slice none 0 0, .slice none 0 0, .slice none 0 0, .slice none 0 0, .slice none 0 0, .int .i64 0]], []⟩ 8 (by kernel_rfl) (by kernel_rfl) (by kernel_rfl) (by kernel_rfl)) ?_
  intro W base args ds gs before hval0 hW hcnd _
  have hval : ∀ (j : Nat) t v, Tryz.f3.params[j]? = some t → args[j]? = some v → Value.okWide Tryz.prog W .any base t v := hval0
  have hW' := hW
  obtain ⟨p, q, hA0, hV, rfl, hfz, hnd⟩ := hW
  have hA : DataW.TrodAll enc Tryz.prog W 0 (fun _ => true) true Tryz.f3.params.toList args.toList ds p := hA0
  rw [Tryz.params3] at hA hval
  obtain ⟨v0, vs0, d0, ds0, p0, r0, hargs, rfl, rfl, h0, t0⟩ := trodAll_cons hA
  obtain ⟨v1, vs1, d1, ds1, p1, r1, rfl, rfl, rfl, h1, t1⟩ := trodAll_cons t0
  obtain ⟨rfl, rfl, rfl⟩ := trodAll_nil t1
  obtain rfl : args = #[v0, v1] := by cases args; simp_all
  obtain ⟨rfl, rfl⟩ := trodVars_none hV
  have k0 := h0
  have lt0 : ∀ x ∈ p0, x.block < W.heap.size := by obtain ⟨m, hm⟩ := k0; exact DataW.trod_lt m _ _ _ hm
  obtain ⟨f0, N0, c0, u0, Amo0, Cmo0, Lmo0, Amd0, Cmd0, Lmd0, Ayd0, Cyd0, Lyd0, Awk0, Cwk0, Lwk0, Ady0, Cdy0, Ldy0, Ah0, Ch0, Lh0, Am0, Cm0, Lm0, As0, Cs0, Ls0, Aps0, Cps0, Lps0, ws0, rfl, Gmo0, Gmd0, Gyd0, Gwk0, Gdy0, Gh0, Gm0, Gs0, Gps0⟩ := open_rec (hval 0 25 v0 rfl rfl) h0
  have k1 := h1
  have lt1 : ∀ x ∈ p1, x.block < W.heap.size := by obtain ⟨m, hm⟩ := k1; exact DataW.trod_lt m _ _ _ hm
  obtain ⟨f1, N1, c1, u1, Amo1, Cmo1, Lmo1, Amd1, Cmd1, Lmd1, Ayd1, Cyd1, Lyd1, Awk1, Cwk1, Lwk1, Ady1, Cdy1, Ldy1, Ah1, Ch1, Lh1, Am1, Cm1, Lm1, As1, Cs1, Ls1, Aps1, Cps1, Lps1, ws1, rfl, Gmo1, Gmd1, Gyd1, Gwk1, Gdy1, Gh1, Gm1, Gs1, Gps1⟩ := open_rec (hval 1 25 v1 rfl rfl) h1
  clear hA0 hval0
  refine (recurrenceForms_walk f0 N0 c0 u0 ws0 Amo0 Cmo0 Lmo0 Amd0 Cmd0 Lmd0 Ayd0 Cyd0 Lyd0 Awk0 Cwk0 Lwk0 Ady0 Cdy0 Ldy0 Ah0 Ch0 Lh0 Am0 Cm0 Lm0 As0 Cs0 Ls0 Aps0 Cps0 Lps0 f1 N1 c1 u1 ws1 Amo1 Cmo1 Lmo1 Amd1 Cmd1 Lmd1 Ayd1 Cyd1 Lyd1 Awk1 Cwk1 Lwk1 Ady1 Cdy1 Ldy1 Ah1 Ch1 Lh1 Am1 Cm1 Lm1 As1 Cs1 Ls1 Aps1 Cps1 Lps1 W Gmo0.1 Gmo0.2.1 Gmo0.2.2 Gmd0.1 Gmd0.2.1 Gmd0.2.2 Gyd0.1 Gyd0.2.1 Gyd0.2.2 Gwk0.1 Gwk0.2.1 Gwk0.2.2 Gdy0.1 Gdy0.2.1 Gdy0.2.2 Gh0.1 Gh0.2.1 Gh0.2.2 Gm0.1 Gm0.2.1 Gm0.2.2 Gs0.1 Gs0.2.1 Gs0.2.2 Gps0.1 Gps0.2.1 Gps0.2.2 Gmo1.1 Gmo1.2.1 Gmo1.2.2 Gmd1.1 Gmd1.2.1 Gmd1.2.2 Gyd1.1 Gyd1.2.1 Gyd1.2.2 Gwk1.1 Gwk1.2.1 Gwk1.2.2 Gdy1.1 Gdy1.2.1 Gdy1.2.2 Gh1.1 Gh1.2.1 Gh1.2.2 Gm1.1 Gm1.2.1 Gm1.2.2 Gs1.1 Gs1.2.1 Gs1.2.2 Gps1.1 Gps1.2.1 Gps1.2.2).mono fun e W' ⟨he, bel⟩ => ?_
  subst he
  exact ⟨_, rfl, _, _, _, [], _, [], hW', trodAll_mk1 (shut_bool Tryz.underlying4 _), (trodAll_cons_mk (Below.trod laidOut (by kernel_rfl) (of_decide_eq_true (by kernel_rfl)) k0 bel lt0) (trodAll_cons_mk (Below.trod laidOut (by kernel_rfl) (of_decide_eq_true (by kernel_rfl)) k1 bel lt1) trodAll_mk0)), rfl, bel.frame _, fun h => by cases h⟩

theorem recurrenceForms_holds : Rows.RecurrenceFormsSaid :=
  OpenClaim.holds_of_wide 3 Tryz.f3 rfl rfl rfl rfl rfl rfl rfl ⟨rfl, rfl, rfl, rfl, rfl⟩ rfl rfl rfl rfl rfl (by kernel_rfl) Tryz.func3 (by kernel_rfl)
    (of_decide_eq_true (by kernel_rfl)) (by unfold Func.isWrapper; rw [if_neg (by decide +kernel)]; exact ⟨rfl, rfl⟩)
    (fun os started H enc _ => recurrenceForms_lifted os started H enc)
#print axioms recurrenceForms_holds
end Go.Proofs.YtmnhfaaaaejpaaaGreat
