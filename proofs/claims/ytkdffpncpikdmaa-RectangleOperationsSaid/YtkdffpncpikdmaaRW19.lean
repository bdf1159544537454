/-
  The code does what its models say (printed by lift.py).
-/
import Derived.Test.YtkdffpncpikdmaaRM
import Derived.Test.YtkdffpncpikdmaaSrtR
import Derived.Test.YtkdffpncpikdmaaRW3
import Derived.Test.YtkdffpncpikdmaaRW10
import Derived.Test.YtkdffpncpikdmaaRW12
import Derived.Test.YtkdffpncpikdmaaRW13
import Derived.Test.YtkdffpncpikdmaaRW14
import Derived.Test.YtkdffpncpikdmaaRW17
import Derived.Test.YtkdffpncpikdmaaRW18
namespace Go.Proofs.Ytkdffpncpikdmaa
open Go.RowKit
set_option maxRecDepth 100000

set_option maxHeartbeats 40000000 in
theorem fn_law35_RectangleOperations {O0 : Ops} (hO0 : O0 = std) {a_1 : List (Int × Int × Int × Int)} {b_1 : List (Int × Int × Int × Int)} {r1 : Bool} (h : m_law35_RectangleOperations O0 a_1 b_1 = some r1) :
    Fn Try.prog 7 [.c (.sl 0), .c (.sl 1)] [.arr false .i4 a_1, .arr false .i4 b_1] (fun v c => v = .c (.bool r1) ∧ c = []) := by
  refine fn_run tab_holds eqs_holds mixed [] Try.func7 (by kernel_rfl) (by kernel_rfl) (Nat.le_of_ble_eq_true rfl) ?_
  intro O X hO hX
  rw [hO0, ← hO] at h
  unfold m_law35_RectangleOperations at h
  have h0 := h; clear h
  cbv
  obtain ⟨b51, hv, h0⟩ := bindS h0
  refine call_is hO hX (fn_law35_awake hO hv) (by kernel_rfl) [] rfl trivial rfl ?_
  cbv
  rcases condS h0 with ⟨hc1, h0⟩ | ⟨hc1, h0⟩
  · rw [hc1]
    cbv
    cases h0
    exact fin_ok hX rfl ⟨[], _, _, ⟨rfl, rfl⟩, rfl, rfl, rfl, rfl, by cbv; try simp⟩
  · as_aux_lemma =>
    rw [hc1]
    cbv
    obtain ⟨b55, hv, h0⟩ := bindS h0
    refine call_is hO hX (fn_law35_few_2 hO hv) (by kernel_rfl) [2, 0, 1] rfl ⟨rfl, rfl, rfl, rfl, rfl, rfl, trivial⟩ rfl ?_
    cbv
    rcases condS h0 with ⟨hc2, h0⟩ | ⟨hc2, h0⟩
    · rw [hc2]
      cbv
      cases h0
      exact fin_ok hX rfl ⟨[], _, _, ⟨rfl, rfl⟩, rfl, rfl, rfl, rfl, by cbv; try simp⟩
    · as_aux_lemma =>
      rw [hc2]
      cbv
      refine loop_unroll tab_holds eqs_holds mixed [] hO hX 4 (by kernel_rfl) ?_
      cbv
      rw [show (O .lt 0 (Int.ofNat 3)) = true from by subst hO; rfl]
      cbv
      obtain ⟨⟨l153, n47⟩, hv, h0⟩ := bindS h0
      try dsimp only at h0
      refine call_is hO hX (fn_rectangle_Union hO hv) (by kernel_rfl) [0, 1] rfl ⟨rfl, rfl, rfl, rfl, trivial⟩ rfl ?_
      cbv
      obtain ⟨⟨l154, n48⟩, hv, h0⟩ := bindS h0
      try dsimp only at h0
      refine call_is hO hX (fn_ref35_Combine hO hv) (by kernel_rfl) [0, 1] rfl ⟨rfl, rfl, rfl, rfl, trivial⟩ rfl ?_
      cbv
      obtain ⟨x157, h1, h0⟩ := bindS h0
      obtain ⟨b56, hv, h1⟩ := bindS h1
      refine call_is hO hX (fn_slices_Equal_2 hO hv) (by kernel_rfl) [4, 5] rfl ⟨rfl, rfl, rfl, rfl, trivial⟩ rfl ?_
      cbv
      rcases condS h1 with ⟨hc3, h1⟩ | ⟨hc3, h1⟩
      · rw [hc3]
        cbv
        cases h1
        try dsimp only at h0
        replace h0 := condT h0 rfl
        cases h0
        exact fin_ok hX rfl ⟨[], _, _, ⟨rfl, rfl⟩, rfl, rfl, rfl, rfl, by cbv; try simp⟩
      · as_aux_lemma =>
        rw [hc3]
        cbv
        cases h1
        try dsimp only at h0
        rcases condS h0 with ⟨hc4, h0⟩ | ⟨hc4, h0⟩
        · rw [hc4]
          cbv
          cases h0
          exact fin_ok hX rfl ⟨[], _, _, ⟨rfl, rfl⟩, rfl, rfl, rfl, rfl, by cbv; try simp⟩
        · as_aux_lemma =>
          rw [hc4]
          cbv
          obtain ⟨hg5, h0⟩ := grdS h0
          refine ⟨inr_of hO hg5, ?_⟩
          try (rw [show (O .add 0 1) = 1 from by subst hO; rfl]; try cbv)
          try (rw [show (O .add 0 1) = 1 from by subst hO; rfl]; try cbv)
          rw [show (O .lt 1 (Int.ofNat 3)) = true from by subst hO; rfl]
          cbv
          obtain ⟨⟨l188, n64⟩, hv, h0⟩ := bindS h0
          try dsimp only at h0
          refine call_is hO hX (fn_rectangle_Meet hO hv) (by kernel_rfl) [0, 1] rfl ⟨rfl, rfl, rfl, rfl, trivial⟩ rfl ?_
          cbv
          obtain ⟨⟨l189, n65⟩, hv, h0⟩ := bindS h0
          try dsimp only at h0
          refine call_is hO hX (fn_ref35_Combine hO hv) (by kernel_rfl) [0, 1] rfl ⟨rfl, rfl, rfl, rfl, trivial⟩ rfl ?_
          cbv
          obtain ⟨x177, h1, h0⟩ := bindS h0
          obtain ⟨b63, hv, h1⟩ := bindS h1
          refine call_is hO hX (fn_slices_Equal_2 hO hv) (by kernel_rfl) [6, 7] rfl ⟨rfl, rfl, rfl, rfl, trivial⟩ rfl ?_
          cbv
          rcases condS h1 with ⟨hc6, h1⟩ | ⟨hc6, h1⟩
          · rw [hc6]
            cbv
            cases h1
            try dsimp only at h0
            replace h0 := condT h0 rfl
            cases h0
            exact fin_ok hX rfl ⟨[], _, _, ⟨rfl, rfl⟩, rfl, rfl, rfl, rfl, by cbv; try simp⟩
          · as_aux_lemma =>
            rw [hc6]
            cbv
            cases h1
            try dsimp only at h0
            rcases condS h0 with ⟨hc7, h0⟩ | ⟨hc7, h0⟩
            · rw [hc7]
              cbv
              cases h0
              exact fin_ok hX rfl ⟨[], _, _, ⟨rfl, rfl⟩, rfl, rfl, rfl, rfl, by cbv; try simp⟩
            · as_aux_lemma =>
              rw [hc7]
              cbv
              obtain ⟨hg8, h0⟩ := grdS h0
              refine ⟨inr_of hO hg8, ?_⟩
              try (rw [show (O .add 1 1) = 2 from by subst hO; rfl]; try cbv)
              try (rw [show (O .add 1 1) = 2 from by subst hO; rfl]; try cbv)
              rw [show (O .lt 2 (Int.ofNat 3)) = true from by subst hO; rfl]
              cbv
              obtain ⟨⟨l223, n81⟩, hv, h0⟩ := bindS h0
              try dsimp only at h0
              refine call_is hO hX (fn_rectangle_Minus hO hv) (by kernel_rfl) [0, 1] rfl ⟨rfl, rfl, rfl, rfl, trivial⟩ rfl ?_
              cbv
              obtain ⟨⟨l224, n82⟩, hv, h0⟩ := bindS h0
              try dsimp only at h0
              refine call_is hO hX (fn_ref35_Combine hO hv) (by kernel_rfl) [0, 1] rfl ⟨rfl, rfl, rfl, rfl, trivial⟩ rfl ?_
              cbv
              obtain ⟨x197, h1, h0⟩ := bindS h0
              obtain ⟨b70, hv, h1⟩ := bindS h1
              refine call_is hO hX (fn_slices_Equal_2 hO hv) (by kernel_rfl) [8, 9] rfl ⟨rfl, rfl, rfl, rfl, trivial⟩ rfl ?_
              cbv
              rcases condS h1 with ⟨hc9, h1⟩ | ⟨hc9, h1⟩
              · rw [hc9]
                cbv
                cases h1
                try dsimp only at h0
                replace h0 := condT h0 rfl
                cases h0
                exact fin_ok hX rfl ⟨[], _, _, ⟨rfl, rfl⟩, rfl, rfl, rfl, rfl, by cbv; try simp⟩
              · as_aux_lemma =>
                rw [hc9]
                cbv
                cases h1
                try dsimp only at h0
                rcases condS h0 with ⟨hc10, h0⟩ | ⟨hc10, h0⟩
                · rw [hc10]
                  cbv
                  cases h0
                  exact fin_ok hX rfl ⟨[], _, _, ⟨rfl, rfl⟩, rfl, rfl, rfl, rfl, by cbv; try simp⟩
                · as_aux_lemma =>
                  rw [hc10]
                  cbv
                  obtain ⟨hg11, h0⟩ := grdS h0
                  refine ⟨inr_of hO hg11, ?_⟩
                  try (rw [show (O .add 2 1) = 3 from by subst hO; rfl]; try cbv)
                  try (rw [show (O .add 2 1) = 3 from by subst hO; rfl]; try cbv)
                  rw [show (O .lt 3 (Int.ofNat 3)) = false from by subst hO; rfl]
                  cbv
                  refine call_nil hO hX .i4 10 rfl ?_
                  cbv
                  obtain ⟨⟨l225, n83⟩, hv, h0⟩ := bindS h0
                  try dsimp only at h0
                  refine call_is hO hX (fn_ref35_Combine hO hv) (by kernel_rfl) [0, 10] rfl ⟨rfl, rfl, rfl, rfl, trivial⟩ rfl ?_
                  cbv
                  refine call_nil hO hX .i4 12 rfl ?_
                  cbv
                  obtain ⟨⟨l226, n84⟩, hv, h0⟩ := bindS h0
                  try dsimp only at h0
                  refine call_is hO hX (fn_ref35_Combine hO hv) (by kernel_rfl) [1, 12] rfl ⟨rfl, rfl, rfl, rfl, trivial⟩ rfl ?_
                  cbv
                  obtain ⟨x205, h1, h0⟩ := bindS h0
                  rcases condS h1 with ⟨hc12, h1⟩ | ⟨hc12, h1⟩
                  · rw [hc12]
                    cbv
                    cases h1
                    try dsimp only at h0
                    cases h0
                    exact fin_ok hX rfl ⟨[], _, _, ⟨rfl, rfl⟩, rfl, rfl, rfl, rfl, by cbv; try simp⟩
                  · rw [hc12]
                    cbv
                    rcases condS h1 with ⟨hc13, h1⟩ | ⟨hc13, h1⟩
                    · rw [hc13]
                      cbv
                      cases h1
                      try dsimp only at h0
                      cases h0
                      exact fin_ok hX rfl ⟨[], _, _, ⟨rfl, rfl⟩, rfl, rfl, rfl, rfl, by cbv; try simp⟩
                    · rw [hc13]
                      cbv
                      obtain ⟨b71, hv, h1⟩ := bindS h1
                      refine call_is hO hX (fn_rectangle_Equal hO hv) (by kernel_rfl) [0, 1] rfl ⟨rfl, rfl, rfl, rfl, trivial⟩ rfl ?_
                      cbv
                      rcases condS h1 with ⟨hc14, h1⟩ | ⟨hc14, h1⟩
                      · rw [hc14]
                        cbv
                        rcases condS h1 with ⟨hc15, h1⟩ | ⟨hc15, h1⟩
                        · rw [hc15]
                          cbv
                          obtain ⟨b72, hv, h1⟩ := bindS h1
                          refine call_is hO hX (fn_slices_Equal_2 hO hv) (by kernel_rfl) [11, 13] rfl ⟨rfl, rfl, rfl, rfl, trivial⟩ rfl ?_
                          cbv
                          cases h1
                          try dsimp only at h0
                          cases h0
                          exact fin_ok hX rfl ⟨[], _, _, ⟨rfl, rfl⟩, rfl, rfl, rfl, rfl, by cbv; try simp⟩
                        · rw [hc15]
                          cbv
                          cases h1
                          try dsimp only at h0
                          cases h0
                          exact fin_ok hX rfl ⟨[], _, _, ⟨rfl, rfl⟩, rfl, rfl, rfl, rfl, by cbv; try simp⟩
                      · rw [hc14]
                        cbv
                        cases h1
                        try dsimp only at h0
                        cases h0
                        exact fin_ok hX rfl ⟨[], _, _, ⟨rfl, rfl⟩, rfl, rfl, rfl, rfl, by cbv; try simp⟩
end Go.Proofs.Ytkdffpncpikdmaa
