/-
  RecurrenceOrder: the call returns true for every input, and each argument reads behind it as it read before. No condition.
-/
import Derived.Test.YtmnhfaaaaejpaaaRows
import Derived.Test.YtmnhfaaaaejpaaaOpenRec
import Derived.Test.YtmnhfaaaaejpaaaRecurrenceOrderW
import Derived.Below
import Derived.Carry
namespace Go.Proofs.Ytmnhfaaaaejpaaa
open Go.ChangeShapes Go.WideShapes Go.ChangeAt Go.RowKit

set_option maxRecDepth 100000 in
theorem recurrenceOrder_lifted (os : Os) (started : os.Started) (H : Type) (enc : TypeId × Value → H) :
    ReturnsInHanded {} Try.checked os 3 .any (Rows.recurrenceOrderSpec.pre6 enc Try.prog Try.f3 Rows.recurrenceOrderRow.domain false) (Rows.recurrenceOrderSpec.post enc Try.prog Try.f3 false true false false) := by
  refine returnsInHanded_of_change (C := Try.checked) own started (by kernel_rfl) Try.func3
    (ChangeSpec.witness6 (enc := enc) (C := Try.checked) false ⟨#[], #[.agg #[.int .i64 0, .int .i64 0, .int .i64 0, .int .i64 0, .slice none 0 0, .slice none 0 0, .slice none 0 0, .slice none 0 0, .slice none 0 0, .slice none 0 0, .slice none 0 0, .slice none 0 0, .slice none 0 0, .int .i64 0], .int .i64 0, .int .i64 0], []⟩ 8 (by kernel_rfl) (by kernel_rfl) (by kernel_rfl) (by kernel_rfl)) ?_
  intro W base args ds gs before hval0 hW hcnd _
  have hval : ∀ (j : Nat) t v, Try.f3.params[j]? = some t → args[j]? = some v → Value.okWide Try.prog W .any base t v := hval0
  have hW' := hW
  obtain ⟨p, q, hA0, hV, rfl, hfz, hnd⟩ := hW
  have hA : DataW.TrodAll enc Try.prog W 0 (fun _ => true) true Try.f3.params.toList args.toList ds p := hA0
  rw [Try.params3] at hA hval
  obtain ⟨v0, vs0, d0, ds0, p0, r0, hargs, rfl, rfl, h0, t0⟩ := trodAll_cons hA
  obtain ⟨v1, vs1, d1, ds1, p1, r1, rfl, rfl, rfl, h1, t1⟩ := trodAll_cons t0
  obtain ⟨v2, vs2, d2, ds2, p2, r2, rfl, rfl, rfl, h2, t2⟩ := trodAll_cons t1
  obtain ⟨rfl, rfl, rfl⟩ := trodAll_nil t2
  obtain rfl : args = #[v0, v1, v2] := by cases args; simp_all
  obtain ⟨rfl, rfl⟩ := trodVars_none hV
  have k0 := h0
  have lt0 : ∀ x ∈ p0, x.block < W.heap.size := by obtain ⟨m, hm⟩ := k0; exact DataW.trod_lt m _ _ _ hm
  obtain ⟨f0, N0, c0, u0, Amo0, Cmo0, Lmo0, Amd0, Cmd0, Lmd0, Ayd0, Cyd0, Lyd0, Awk0, Cwk0, Lwk0, Ady0, Cdy0, Ldy0, Ah0, Ch0, Lh0, Am0, Cm0, Lm0, As0, Cs0, Ls0, Aps0, Cps0, Lps0, ws0, rfl, Gmo0, Gmd0, Gyd0, Gwk0, Gdy0, Gh0, Gm0, Gs0, Gps0⟩ := open_rec (hval 0 25 v0 rfl rfl) h0
  have k1 := h1
  have lt1 : ∀ x ∈ p1, x.block < W.heap.size := by obtain ⟨m, hm⟩ := k1; exact DataW.trod_lt m _ _ _ hm
  obtain ⟨n1, rfl, ha1, hz1⟩ := open_i64 (hval 1 3 v1 rfl rfl) h1
  have k2 := h2
  have lt2 : ∀ x ∈ p2, x.block < W.heap.size := by obtain ⟨m, hm⟩ := k2; exact DataW.trod_lt m _ _ _ hm
  obtain ⟨n2, rfl, ha2, hz2⟩ := open_i64 (hval 2 3 v2 rfl rfl) h2
  clear hA0 hval0
  refine (recurrenceOrder_walk f0 N0 c0 u0 ws0 Amo0 Cmo0 Lmo0 Amd0 Cmd0 Lmd0 Ayd0 Cyd0 Lyd0 Awk0 Cwk0 Lwk0 Ady0 Cdy0 Ldy0 Ah0 Ch0 Lh0 Am0 Cm0 Lm0 As0 Cs0 Ls0 Aps0 Cps0 Lps0 n1 n2 W Gmo0.1 Gmo0.2.1 Gmo0.2.2 Gmd0.1 Gmd0.2.1 Gmd0.2.2 Gyd0.1 Gyd0.2.1 Gyd0.2.2 Gwk0.1 Gwk0.2.1 Gwk0.2.2 Gdy0.1 Gdy0.2.1 Gdy0.2.2 Gh0.1 Gh0.2.1 Gh0.2.2 Gm0.1 Gm0.2.1 Gm0.2.2 Gs0.1 Gs0.2.1 Gs0.2.2 Gps0.1 Gps0.2.1 Gps0.2.2).mono fun e W' ⟨he, bel⟩ => ?_
  subst he
  exact ⟨_, rfl, _, _, _, [], _, [], hW', trodAll_mk1 (shut_bool Try.underlying4 _), (trodAll_cons_mk (Below.trod laidOut (by kernel_rfl) (of_decide_eq_true (by kernel_rfl)) k0 bel lt0) (trodAll_cons_mk (Below.trod laidOut (by kernel_rfl) (of_decide_eq_true (by kernel_rfl)) k1 bel lt1) (trodAll_cons_mk (Below.trod laidOut (by kernel_rfl) (of_decide_eq_true (by kernel_rfl)) k2 bel lt2) trodAll_mk0))), rfl, bel.frame _, fun h => by cases h⟩

theorem recurrenceOrder_holds : Rows.RecurrenceOrderSaid :=
  OpenClaim.holds_of_wide 3 Try.f3 rfl rfl rfl rfl rfl rfl rfl ⟨rfl, rfl, rfl, rfl, rfl⟩ rfl rfl rfl rfl rfl (by kernel_rfl) Try.func3 (by kernel_rfl)
    (of_decide_eq_true (by kernel_rfl)) (by unfold Func.isWrapper; rw [if_neg (by decide +kernel)]; exact ⟨rfl, rfl⟩)
    (fun os started H enc _ => recurrenceOrder_lifted os started H enc)
#print axioms recurrenceOrder_holds
end Go.Proofs.Ytmnhfaaaaejpaaa
