/-
  The code does what its models say (printed by lift.py).
-/
import Derived.Test.YtmnhfaaaaejpaaaNM
import Derived.Test.YtmnhfaaaaejpaaaNNoW
import Derived.Test.YtmnhfaaaaejpaaaNW0
import Derived.Test.YtmnhfaaaaejpaaaNW3
import Derived.Test.YtmnhfaaaaejpaaaNW6
import Derived.Test.YtmnhfaaaaejpaaaNW9
namespace Go.Proofs.Ytmnhfaaaaejpaaa
open Go.RowKit
set_option maxRecDepth 100000

set_option maxHeartbeats 40000000 in
theorem fn_law29_RecurrenceYearly {O0 : Ops} (hO0 : O0 = std) {n_1 : Int} {start_1 : Int} {l_1 : Int} {r1 : Bool} (h : m_law29_RecurrenceYearly O0 n_1 start_1 l_1 = some r1) :
    Fn Try.prog 5 [.c (.int .u8 n_1), .c (.int .i64 start_1), .c (.int .i64 l_1)] [] (fun v c => v = .c (.bool r1) ∧ c = []) := by
  refine fn_run tab_holds eqs_holds mixed [] Try.func5 (by kernel_rfl) (by kernel_rfl) (Nat.le_of_ble_eq_true rfl) ?_
  intro O X hO hX
  rw [hO0, ← hO] at h
  unfold m_law29_RecurrenceYearly at h
  have h0 := h; clear h
  cbv
  obtain ⟨x164, h1, h0⟩ := bindS h0
  obtain ⟨b42, hv, h1⟩ := bindS h1
  refine call_is hO hX (fn_law29_awake hO hv) (by kernel_rfl) [] rfl trivial rfl ?_
  cbv
  rcases condS h1 with ⟨hc1, h1⟩ | ⟨hc1, h1⟩
  · rw [hc1]
    cbv
    cases h1
    try dsimp only at h0
    replace h0 := condT h0 rfl
    obtain ⟨b45, hv, h0⟩ := bindS h0
    refine call_is hO hX (fn_law29_awake hO hv) (by kernel_rfl) [] rfl trivial rfl ?_
    cbv
    cases h0
    exact fin_ok hX rfl ⟨[], _, _, ⟨rfl, rfl⟩, rfl, rfl, rfl, rfl, by cbv; try simp⟩
  · as_aux_lemma =>
    rw [hc1]
    cbv
    obtain ⟨b43, hv, h1⟩ := bindS h1
    refine call_is hO hX (fn_ref29_Local hO hv) (by kernel_rfl) [] rfl trivial rfl ?_
    cbv
    rcases condS h1 with ⟨hc2, h1⟩ | ⟨hc2, h1⟩
    · rw [hc2]
      cbv
      cases h1
      try dsimp only at h0
      replace h0 := condT h0 rfl
      obtain ⟨b45, hv, h0⟩ := bindS h0
      refine call_is hO hX (fn_law29_awake hO hv) (by kernel_rfl) [] rfl trivial rfl ?_
      cbv
      cases h0
      exact fin_ok hX rfl ⟨[], _, _, ⟨rfl, rfl⟩, rfl, rfl, rfl, rfl, by cbv; try simp⟩
    · as_aux_lemma =>
      rw [hc2]
      cbv
      obtain ⟨b44, hv, h1⟩ := bindS h1
      refine call_is hO hX (fn_ref29_Local hO hv) (by kernel_rfl) [] rfl trivial rfl ?_
      cbv
      cases h1
      try dsimp only at h0
      rcases condS h0 with ⟨hc3, h0⟩ | ⟨hc3, h0⟩
      · rw [hc3]
        cbv
        obtain ⟨b45, hv, h0⟩ := bindS h0
        refine call_is hO hX (fn_law29_awake hO hv) (by kernel_rfl) [] rfl trivial rfl ?_
        cbv
        cases h0
        exact fin_ok hX rfl ⟨[], _, _, ⟨rfl, rfl⟩, rfl, rfl, rfl, rfl, by cbv; try simp⟩
      · as_aux_lemma =>
        rw [hc3]
        cbv
        obtain ⟨hg4, h0⟩ := grdS h0
        refine ⟨inr_of hO hg4, ?_⟩
        obtain ⟨hg5, h0⟩ := grdS h0
        refine ⟨nz_of hO hg5, ?_⟩
        obtain ⟨hg6, h0⟩ := grdS h0
        refine ⟨inr_of hO hg6, ?_⟩
        refine call_nil hO hX .i1 1 rfl ?_
        cbv
        refine call_nil hO hX .i1 2 rfl ?_
        cbv
        refine call_nil hO hX .i1 3 rfl ?_
        cbv
        refine call_nil hO hX .i1 4 rfl ?_
        cbv
        refine call_nil hO hX .i2 5 rfl ?_
        cbv
        refine call_nil hO hX .i1 6 rfl ?_
        cbv
        refine call_nil hO hX .i1 7 rfl ?_
        cbv
        refine call_nil hO hX .i1 8 rfl ?_
        cbv
        refine call_nil hO hX .i1 9 rfl ?_
        cbv
        obtain ⟨⟨b46, n82⟩, hv, h0⟩ := bindS h0
        try dsimp only at h0
        refine call_is hO hX (fn_recurrence_Matches hO hv) (by kernel_rfl) [1, 2, 3, 4, 5, 6, 7, 8, 9] rfl ⟨rfl, rfl, rfl, rfl, rfl, rfl, rfl, rfl, rfl, rfl, rfl, rfl, rfl, rfl, rfl, rfl, rfl, rfl, trivial⟩ rfl ?_
        cbv
        obtain ⟨n83, hv, h0⟩ := bindS h0
        refine call_is hO hX (fn_integer_Floor hO hv) (by kernel_rfl) [] rfl trivial rfl ?_
        cbv
        obtain ⟨⟨n84, n85, n86, n87⟩, hv, h0⟩ := bindS h0
        try dsimp only at h0
        refine call_is hO hX (fn_civil_Date hO hv) (by kernel_rfl) [] rfl trivial rfl ?_
        cbv
        obtain ⟨n88, hv, h0⟩ := bindS h0
        refine call_is hO hX (fn_integer_Floor hO hv) (by kernel_rfl) [] rfl trivial rfl ?_
        cbv
        obtain ⟨⟨n89, n90, n91, n92⟩, hv, h0⟩ := bindS h0
        try dsimp only at h0
        refine call_is hO hX (fn_civil_Date hO hv) (by kernel_rfl) [] rfl trivial rfl ?_
        cbv
        obtain ⟨x166, h1, h0⟩ := bindS h0
        rcases condS h1 with ⟨hc7, h1⟩ | ⟨hc7, h1⟩
        · rw [hc7]
          cbv
          cases h1
          try dsimp only at h0
          replace h0 := condT h0 rfl
          cases h0
          exact fin_ok hX rfl ⟨[], _, _, ⟨rfl, rfl⟩, rfl, rfl, rfl, rfl, by cbv; try simp⟩
        · as_aux_lemma =>
          rw [hc7]
          cbv
          rcases condS h1 with ⟨hc8, h1⟩ | ⟨hc8, h1⟩
          · rw [hc8]
            cbv
            cases h1
            try dsimp only at h0
            replace h0 := condT h0 rfl
            cases h0
            exact fin_ok hX rfl ⟨[], _, _, ⟨rfl, rfl⟩, rfl, rfl, rfl, rfl, by cbv; try simp⟩
          · as_aux_lemma =>
            rw [hc8]
            cbv
            cases h1
            try dsimp only at h0
            rcases condS h0 with ⟨hc9, h0⟩ | ⟨hc9, h0⟩
            · rw [hc9]
              cbv
              cases h0
              exact fin_ok hX rfl ⟨[], _, _, ⟨rfl, rfl⟩, rfl, rfl, rfl, rfl, by cbv; try simp⟩
            · as_aux_lemma =>
              rw [hc9]
              cbv
              obtain ⟨same3, h1, h0⟩ := bindS h0
              rcases condS h1 with ⟨hc10, h1⟩ | ⟨hc10, h1⟩
              · as_aux_lemma =>
                rw [hc10]
                cbv
                rcases condS h1 with ⟨hc11, h1⟩ | ⟨hc11, h1⟩
                · rw [hc11]
                  cbv
                  obtain ⟨n93, hv, h1⟩ := bindS h1
                  refine call_is hO hX (fn_integer_Mod hO hv) (by kernel_rfl) [] rfl trivial rfl ?_
                  cbv
                  obtain ⟨n94, hv, h1⟩ := bindS h1
                  refine call_is hO hX (fn_integer_Mod hO hv) (by kernel_rfl) [] rfl trivial rfl ?_
                  cbv
                  cases h1
                  try dsimp only at h0
                  obtain ⟨x169, h1, h0⟩ := bindS h0
                  rcases condS h1 with ⟨hc12, h1⟩ | ⟨hc12, h1⟩
                  · rw [hc12]
                    cbv
                    rcases condS h1 with ⟨hc13, h1⟩ | ⟨hc13, h1⟩
                    · rw [hc13]
                      cbv
                      obtain ⟨hg14, h1⟩ := grdS h1
                      refine ⟨inr_of hO hg14, ?_⟩
                      obtain ⟨hg15, h1⟩ := grdS h1
                      refine ⟨nz_of hO hg15, ?_⟩
                      cases h1
                      try dsimp only at h0
                      cases h0
                      exact fin_ok hX rfl ⟨[], _, _, ⟨rfl, rfl⟩, rfl, rfl, rfl, rfl, by cbv; try simp⟩
                    · rw [hc13]
                      cbv
                      cases h1
                      try dsimp only at h0
                      cases h0
                      exact fin_ok hX rfl ⟨[], _, _, ⟨rfl, rfl⟩, rfl, rfl, rfl, rfl, by cbv; try simp⟩
                  · rw [hc12]
                    cbv
                    cases h1
                    try dsimp only at h0
                    cases h0
                    exact fin_ok hX rfl ⟨[], _, _, ⟨rfl, rfl⟩, rfl, rfl, rfl, rfl, by cbv; try simp⟩
                · rw [hc11]
                  cbv
                  cases h1
                  try dsimp only at h0
                  obtain ⟨x169, h1, h0⟩ := bindS h0
                  replace h1 := condF h1 rfl
                  cases h1
                  try dsimp only at h0
                  cases h0
                  exact fin_ok hX rfl ⟨[], _, _, ⟨rfl, rfl⟩, rfl, rfl, rfl, rfl, by cbv; try simp⟩
              · rw [hc10]
                cbv
                cases h1
                try dsimp only at h0
                obtain ⟨x169, h1, h0⟩ := bindS h0
                replace h1 := condF h1 rfl
                cases h1
                try dsimp only at h0
                cases h0
                exact fin_ok hX rfl ⟨[], _, _, ⟨rfl, rfl⟩, rfl, rfl, rfl, rfl, by cbv; try simp⟩
end Go.Proofs.Ytmnhfaaaaejpaaa
