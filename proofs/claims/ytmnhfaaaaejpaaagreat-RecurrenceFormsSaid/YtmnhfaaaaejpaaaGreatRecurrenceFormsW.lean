/-
  The walk of RecurrenceForms, as the row takes it.
-/
import Derived.Test.YtmnhfaaaaejpaaaGreatArr
import Derived.Test.YtmnhfaaaaejpaaaGreatYfW3
import Derived.Test.YtmnhfaaaaejpaaaGreatYF
namespace Go.Proofs.YtmnhfaaaaejpaaaGreat
open Go.RowKit Go.Proofs.YtmnhfaaaaejpaaaGreat.R
theorem recurrenceForms_walk (f0 N0 c0 u0 ws0 : Int) (Amo0 : Option Addr) (Cmo0 : Nat) (Lmo0 : List Int) (Amd0 : Option Addr) (Cmd0 : Nat) (Lmd0 : List Int) (Ayd0 : Option Addr) (Cyd0 : Nat) (Lyd0 : List Int) (Awk0 : Option Addr) (Cwk0 : Nat) (Lwk0 : List Int) (Ady0 : Option Addr) (Cdy0 : Nat) (Ldy0 : List (Int × Int)) (Ah0 : Option Addr) (Ch0 : Nat) (Lh0 : List Int) (Am0 : Option Addr) (Cm0 : Nat) (Lm0 : List Int) (As0 : Option Addr) (Cs0 : Nat) (Ls0 : List Int) (Aps0 : Option Addr) (Cps0 : Nat) (Lps0 : List Int) (f1 N1 c1 u1 ws1 : Int) (Amo1 : Option Addr) (Cmo1 : Nat) (Lmo1 : List Int) (Amd1 : Option Addr) (Cmd1 : Nat) (Lmd1 : List Int) (Ayd1 : Option Addr) (Cyd1 : Nat) (Lyd1 : List Int) (Awk1 : Option Addr) (Cwk1 : Nat) (Lwk1 : List Int) (Ady1 : Option Addr) (Cdy1 : Nat) (Ldy1 : List (Int × Int)) (Ah1 : Option Addr) (Ch1 : Nat) (Lh1 : List Int) (Am1 : Option Addr) (Cm1 : Nat) (Lm1 : List Int) (As1 : Option Addr) (Cs1 : Nat) (Ls1 : List Int) (Aps1 : Option Addr) (Cps1 : Nat) (Lps1 : List Int) (w : World) (hmo0 : IsR w Amo0 Lmo0) (hcmo0 : Lmo0.length ≤ Cmo0) (hmmo0 : Cmo0 ≤ maxLen) (hmd0 : IsR w Amd0 Lmd0) (hcmd0 : Lmd0.length ≤ Cmd0) (hmmd0 : Cmd0 ≤ maxLen) (hyd0 : IsR w Ayd0 Lyd0) (hcyd0 : Lyd0.length ≤ Cyd0) (hmyd0 : Cyd0 ≤ maxLen) (hwk0 : IsR w Awk0 Lwk0) (hcwk0 : Lwk0.length ≤ Cwk0) (hmwk0 : Cwk0 ≤ maxLen) (hdy0 : SpsR w Ady0 Ldy0) (hcdy0 : Ldy0.length ≤ Cdy0) (hmdy0 : Cdy0 ≤ maxLen) (hh0 : IsR w Ah0 Lh0) (hch0 : Lh0.length ≤ Ch0) (hmh0 : Ch0 ≤ maxLen) (hm0 : IsR w Am0 Lm0) (hcm0 : Lm0.length ≤ Cm0) (hmm0 : Cm0 ≤ maxLen) (hs0 : IsR w As0 Ls0) (hcs0 : Ls0.length ≤ Cs0) (hms0 : Cs0 ≤ maxLen) (hps0 : IsR w Aps0 Lps0) (hcps0 : Lps0.length ≤ Cps0) (hmps0 : Cps0 ≤ maxLen) (hmo1 : IsR w Amo1 Lmo1) (hcmo1 : Lmo1.length ≤ Cmo1) (hmmo1 : Cmo1 ≤ maxLen) (hmd1 : IsR w Amd1 Lmd1) (hcmd1 : Lmd1.length ≤ Cmd1) (hmmd1 : Cmd1 ≤ maxLen) (hyd1 : IsR w Ayd1 Lyd1) (hcyd1 : Lyd1.length ≤ Cyd1) (hmyd1 : Cyd1 ≤ maxLen) (hwk1 : IsR w Awk1 Lwk1) (hcwk1 : Lwk1.length ≤ Cwk1) (hmwk1 : Cwk1 ≤ maxLen) (hdy1 : SpsR w Ady1 Ldy1) (hcdy1 : Ldy1.length ≤ Cdy1) (hmdy1 : Cdy1 ≤ maxLen) (hh1 : IsR w Ah1 Lh1) (hch1 : Lh1.length ≤ Ch1) (hmh1 : Ch1 ≤ maxLen) (hm1 : IsR w Am1 Lm1) (hcm1 : Lm1.length ≤ Cm1) (hmm1 : Cm1 ≤ maxLen) (hs1 : IsR w As1 Ls1) (hcs1 : Ls1.length ≤ Cs1) (hms1 : Cs1 ≤ maxLen) (hps1 : IsR w Aps1 Lps1) (hcps1 : Lps1.length ≤ Cps1) (hmps1 : Cps1 ≤ maxLen) :
    Calls Tryz.prog 3 #[.agg #[.int .i64 f0, .int .i64 N0, .int .i64 c0, .int .i64 u0, .slice Amo0 (List.length Lmo0) Cmo0, .slice Amd0 (List.length Lmd0) Cmd0, .slice Ayd0 (List.length Lyd0) Cyd0, .slice Awk0 (List.length Lwk0) Cwk0, .slice Ady0 (List.length Ldy0) Cdy0, .slice Ah0 (List.length Lh0) Ch0, .slice Am0 (List.length Lm0) Cm0, .slice As0 (List.length Ls0) Cs0, .slice Aps0 (List.length Lps0) Cps0, .int .i64 ws0], .agg #[.int .i64 f1, .int .i64 N1, .int .i64 c1, .int .i64 u1, .slice Amo1 (List.length Lmo1) Cmo1, .slice Amd1 (List.length Lmd1) Cmd1, .slice Ayd1 (List.length Lyd1) Cyd1, .slice Awk1 (List.length Lwk1) Cwk1, .slice Ady1 (List.length Ldy1) Cdy1, .slice Ah1 (List.length Lh1) Ch1, .slice Am1 (List.length Lm1) Cm1, .slice As1 (List.length Ls1) Cs1, .slice Aps1 (List.length Lps1) Cps1, .int .i64 ws1]] w fun e w' => e = .returned (.bool true) ∧ Below w.heap.size w w' := by
  refine fn_true (fn_law29_RecurrenceForms rfl (pl_RecurrenceForms ⟨f0, N0, c0, u0, ws0, Lmo0, Lmd0, Lyd0, Lwk0, Ldy0, Lh0, Lm0, Ls0, Lps0⟩ ⟨f1, N1, c1, u1, ws1, Lmo1, Lmd1, Lyd1, Lwk1, Ldy1, Lh1, Lm1, Ls1, Lps1⟩)) w [.arr false Amo0 Cmo0 .i1 Lmo0, .arr false Amd0 Cmd0 .i1 Lmd0, .arr false Ayd0 Cyd0 .i1 Lyd0, .arr false Awk0 Cwk0 .i1 Lwk0, .arr false Ady0 Cdy0 .i2 Ldy0, .arr false Ah0 Ch0 .i1 Lh0, .arr false Am0 Cm0 .i1 Lm0, .arr false As0 Cs0 .i1 Ls0, .arr false Aps0 Cps0 .i1 Lps0, .arr false Amo1 Cmo1 .i1 Lmo1, .arr false Amd1 Cmd1 .i1 Lmd1, .arr false Ayd1 Cyd1 .i1 Lyd1, .arr false Awk1 Cwk1 .i1 Lwk1, .arr false Ady1 Cdy1 .i2 Ldy1, .arr false Ah1 Ch1 .i1 Lh1, .arr false Am1 Cm1 .i1 Lm1, .arr false As1 Cs1 .i1 Ls1, .arr false Aps1 Cps1 .i1 Lps1] rfl (hok_ro fun d hd => ?_) _ rfl
  simp at hd
  rcases hd with rfl | rfl | rfl | rfl | rfl | rfl | rfl | rfl | rfl | rfl | rfl | rfl | rfl | rfl | rfl | rfl | rfl | rfl
  · exact is_arr hmo0 hcmo0 hmmo0
  · exact is_arr hmd0 hcmd0 hmmd0
  · exact is_arr hyd0 hcyd0 hmyd0
  · exact is_arr hwk0 hcwk0 hmwk0
  · exact sps_arr hdy0 hcdy0 hmdy0
  · exact is_arr hh0 hch0 hmh0
  · exact is_arr hm0 hcm0 hmm0
  · exact is_arr hs0 hcs0 hms0
  · exact is_arr hps0 hcps0 hmps0
  · exact is_arr hmo1 hcmo1 hmmo1
  · exact is_arr hmd1 hcmd1 hmmd1
  · exact is_arr hyd1 hcyd1 hmyd1
  · exact is_arr hwk1 hcwk1 hmwk1
  · exact sps_arr hdy1 hcdy1 hmdy1
  · exact is_arr hh1 hch1 hmh1
  · exact is_arr hm1 hcm1 hmm1
  · exact is_arr hs1 hcs1 hms1
  · exact is_arr hps1 hcps1 hmps1
end Go.Proofs.YtmnhfaaaaejpaaaGreat
