/-
  The walk of RecurrencePeriods, as the row takes it.
-/
import Derived.Test.YtmnhfaaaaejpaaaArr
import Derived.Test.YtmnhfaaaaejpaaaNW16
import Derived.Test.YtmnhfaaaaejpaaaN4
namespace Go.Proofs.Ytmnhfaaaaejpaaa
open Go.RowKit
theorem recurrencePeriods_walk (f0 N0 c0 u0 ws0 : Int) (Amo0 : Option Addr) (Cmo0 : Nat) (Lmo0 : List Int) (Amd0 : Option Addr) (Cmd0 : Nat) (Lmd0 : List Int) (Ayd0 : Option Addr) (Cyd0 : Nat) (Lyd0 : List Int) (Awk0 : Option Addr) (Cwk0 : Nat) (Lwk0 : List Int) (Ady0 : Option Addr) (Cdy0 : Nat) (Ldy0 : List (Int × Int)) (Ah0 : Option Addr) (Ch0 : Nat) (Lh0 : List Int) (Am0 : Option Addr) (Cm0 : Nat) (Lm0 : List Int) (As0 : Option Addr) (Cs0 : Nat) (Ls0 : List Int) (Aps0 : Option Addr) (Cps0 : Nat) (Lps0 : List Int) (n1 : Int) (n2 : Int) (n3 : Int) (w : World) (hmo0 : IsR w Amo0 Lmo0) (hcmo0 : Lmo0.length ≤ Cmo0) (hmmo0 : Cmo0 ≤ maxLen) (hmd0 : IsR w Amd0 Lmd0) (hcmd0 : Lmd0.length ≤ Cmd0) (hmmd0 : Cmd0 ≤ maxLen) (hyd0 : IsR w Ayd0 Lyd0) (hcyd0 : Lyd0.length ≤ Cyd0) (hmyd0 : Cyd0 ≤ maxLen) (hwk0 : IsR w Awk0 Lwk0) (hcwk0 : Lwk0.length ≤ Cwk0) (hmwk0 : Cwk0 ≤ maxLen) (hdy0 : SpsR w Ady0 Ldy0) (hcdy0 : Ldy0.length ≤ Cdy0) (hmdy0 : Cdy0 ≤ maxLen) (hh0 : IsR w Ah0 Lh0) (hch0 : Lh0.length ≤ Ch0) (hmh0 : Ch0 ≤ maxLen) (hm0 : IsR w Am0 Lm0) (hcm0 : Lm0.length ≤ Cm0) (hmm0 : Cm0 ≤ maxLen) (hs0 : IsR w As0 Ls0) (hcs0 : Ls0.length ≤ Cs0) (hms0 : Cs0 ≤ maxLen) (hps0 : IsR w Aps0 Lps0) (hcps0 : Lps0.length ≤ Cps0) (hmps0 : Cps0 ≤ maxLen) :
    Calls Try.prog 6 #[.agg #[.int .i64 f0, .int .i64 N0, .int .i64 c0, .int .i64 u0, .slice Amo0 (List.length Lmo0) Cmo0, .slice Amd0 (List.length Lmd0) Cmd0, .slice Ayd0 (List.length Lyd0) Cyd0, .slice Awk0 (List.length Lwk0) Cwk0, .slice Ady0 (List.length Ldy0) Cdy0, .slice Ah0 (List.length Lh0) Ch0, .slice Am0 (List.length Lm0) Cm0, .slice As0 (List.length Ls0) Cs0, .slice Aps0 (List.length Lps0) Cps0, .int .i64 ws0], .int .i64 n1, .int .i64 n2, .int .i64 n3] w fun e w' => e = .returned (.bool true) ∧ Below w.heap.size w w' := by
  refine fn_true (fn_law29_RecurrencePeriods rfl (pl_RecurrencePeriods ⟨f0, N0, c0, u0, ws0, Lmo0, Lmd0, Lyd0, Lwk0, Ldy0, Lh0, Lm0, Ls0, Lps0⟩ n1 n2 n3)) w [.arr false Amo0 Cmo0 .i1 Lmo0, .arr false Amd0 Cmd0 .i1 Lmd0, .arr false Ayd0 Cyd0 .i1 Lyd0, .arr false Awk0 Cwk0 .i1 Lwk0, .arr false Ady0 Cdy0 .i2 Ldy0, .arr false Ah0 Ch0 .i1 Lh0, .arr false Am0 Cm0 .i1 Lm0, .arr false As0 Cs0 .i1 Ls0, .arr false Aps0 Cps0 .i1 Lps0] rfl (hok_ro fun d hd => ?_) _ rfl
  simp at hd
  rcases hd with rfl | rfl | rfl | rfl | rfl | rfl | rfl | rfl | rfl
  · exact is_arr hmo0 hcmo0 hmmo0
  · exact is_arr hmd0 hcmd0 hmmd0
  · exact is_arr hyd0 hcyd0 hmyd0
  · exact is_arr hwk0 hcwk0 hmwk0
  · exact sps_arr hdy0 hcdy0 hmdy0
  · exact is_arr hh0 hch0 hmh0
  · exact is_arr hm0 hcm0 hmm0
  · exact is_arr hs0 hcs0 hms0
  · exact is_arr hps0 hcps0 hmps0
end Go.Proofs.Ytmnhfaaaaejpaaa
