/-
  The code does what its models say (printed by lift.py).
-/
import Derived.Test.YtkdffpncpikdmaaRM
import Derived.Test.YtkdffpncpikdmaaSrtR
import Derived.Test.YtkdffpncpikdmaaRW3
import Derived.Test.YtkdffpncpikdmaaRW13
import Derived.Test.YtkdffpncpikdmaaRW14
import Derived.Test.YtkdffpncpikdmaaRW17
import Derived.Test.YtkdffpncpikdmaaRW18
namespace Go.Proofs.Ytkdffpncpikdmaa
open Go.RowKit
set_option maxRecDepth 100000

set_option maxHeartbeats 40000000 in
theorem fn_law35_RectangleAlgebra {O0 : Ops} (hO0 : O0 = std) {a_1 : List (Int × Int × Int × Int)} {b_1 : List (Int × Int × Int × Int)} {c_1 : List (Int × Int × Int × Int)} {r1 : Bool} (h : m_law35_RectangleAlgebra O0 a_1 b_1 c_1 = some r1) :
    Fn Try.prog 8 [.c (.sl 0), .c (.sl 1), .c (.sl 2)] [.arr false .i4 a_1, .arr false .i4 b_1, .arr false .i4 c_1] (fun v c => v = .c (.bool r1) ∧ c = []) := by
  refine fn_run tab_holds eqs_holds mixed [] Try.func8 (by kernel_rfl) (by kernel_rfl) (Nat.le_of_ble_eq_true rfl) ?_
  intro O X hO hX
  rw [hO0, ← hO] at h
  unfold m_law35_RectangleAlgebra at h
  have h0 := h; clear h
  cbv
  obtain ⟨b122, hv, h0⟩ := bindS h0
  refine call_is hO hX (fn_law35_awake hO hv) (by kernel_rfl) [] rfl trivial rfl ?_
  cbv
  rcases condS h0 with ⟨hc1, h0⟩ | ⟨hc1, h0⟩
  · rw [hc1]
    cbv
    cases h0
    exact fin_ok hX rfl ⟨[], _, _, ⟨rfl, rfl⟩, rfl, rfl, rfl, rfl, by cbv; try simp⟩
  · as_aux_lemma =>
    rw [hc1]
    cbv
    obtain ⟨x295, h1, h0⟩ := bindS h0
    rcases condS h1 with ⟨hc2, h1⟩ | ⟨hc2, h1⟩
    · rw [hc2]
      cbv
      cases h1
      try dsimp only at h0
      replace h0 := condT h0 rfl
      cases h0
      exact fin_ok hX rfl ⟨[], _, _, ⟨rfl, rfl⟩, rfl, rfl, rfl, rfl, by cbv; try simp⟩
    · as_aux_lemma =>
      rw [hc2]
      cbv
      rcases condS h1 with ⟨hc3, h1⟩ | ⟨hc3, h1⟩
      · rw [hc3]
        cbv
        cases h1
        try dsimp only at h0
        replace h0 := condT h0 rfl
        cases h0
        exact fin_ok hX rfl ⟨[], _, _, ⟨rfl, rfl⟩, rfl, rfl, rfl, rfl, by cbv; try simp⟩
      · as_aux_lemma =>
        rw [hc3]
        cbv
        rcases condS h1 with ⟨hc4, h1⟩ | ⟨hc4, h1⟩
        · rw [hc4]
          cbv
          cases h1
          try dsimp only at h0
          replace h0 := condT h0 rfl
          cases h0
          exact fin_ok hX rfl ⟨[], _, _, ⟨rfl, rfl⟩, rfl, rfl, rfl, rfl, by cbv; try simp⟩
        · as_aux_lemma =>
          rw [hc4]
          cbv
          obtain ⟨b123, hv, h1⟩ := bindS h1
          refine call_is hO hX (fn_ref35_List hO hv) (by kernel_rfl) [0] rfl ⟨rfl, rfl, trivial⟩ rfl ?_
          cbv
          rcases condS h1 with ⟨hc5, h1⟩ | ⟨hc5, h1⟩
          · rw [hc5]
            cbv
            cases h1
            try dsimp only at h0
            replace h0 := condT h0 rfl
            cases h0
            exact fin_ok hX rfl ⟨[], _, _, ⟨rfl, rfl⟩, rfl, rfl, rfl, rfl, by cbv; try simp⟩
          · as_aux_lemma =>
            rw [hc5]
            cbv
            obtain ⟨b124, hv, h1⟩ := bindS h1
            refine call_is hO hX (fn_ref35_List hO hv) (by kernel_rfl) [1] rfl ⟨rfl, rfl, trivial⟩ rfl ?_
            cbv
            rcases condS h1 with ⟨hc6, h1⟩ | ⟨hc6, h1⟩
            · rw [hc6]
              cbv
              cases h1
              try dsimp only at h0
              replace h0 := condT h0 rfl
              cases h0
              exact fin_ok hX rfl ⟨[], _, _, ⟨rfl, rfl⟩, rfl, rfl, rfl, rfl, by cbv; try simp⟩
            · as_aux_lemma =>
              rw [hc6]
              cbv
              obtain ⟨b125, hv, h1⟩ := bindS h1
              refine call_is hO hX (fn_ref35_List hO hv) (by kernel_rfl) [2] rfl ⟨rfl, rfl, trivial⟩ rfl ?_
              cbv
              cases h1
              try dsimp only at h0
              rcases condS h0 with ⟨hc7, h0⟩ | ⟨hc7, h0⟩
              · rw [hc7]
                cbv
                cases h0
                exact fin_ok hX rfl ⟨[], _, _, ⟨rfl, rfl⟩, rfl, rfl, rfl, rfl, by cbv; try simp⟩
              · as_aux_lemma =>
                rw [hc7]
                cbv
                refine call_inline tab_holds eqs_holds mixed [] hO hX (by kernel_rfl) Try.func33 (by kernel_rfl) (by kernel_rfl) rfl ?_
                intro X1 hX1 hF1
                cbv
                obtain ⟨⟨l258, n98⟩, hv, h0⟩ := bindS h0
                try dsimp only at h0
                refine call_is hO hX1 (fn_rectangle_Minus hO hv) (by kernel_rfl) [0, 1] rfl ⟨rfl, rfl, rfl, rfl, trivial⟩ rfl ?_
                cbv
                refine hF1 _ _ ?_
                cbv
                refine call_inline tab_holds eqs_holds mixed [] hO hX (by kernel_rfl) Try.func33 (by kernel_rfl) (by kernel_rfl) rfl ?_
                intro X2 hX2 hF2
                cbv
                obtain ⟨⟨l259, n99⟩, hv, h0⟩ := bindS h0
                try dsimp only at h0
                refine call_is hO hX2 (fn_rectangle_Meet hO hv) (by kernel_rfl) [0, 1] rfl ⟨rfl, rfl, rfl, rfl, trivial⟩ rfl ?_
                cbv
                obtain ⟨x297, h1, h0⟩ := bindS h0
                rcases condS h1 with ⟨hc8, h1⟩ | ⟨hc8, h1⟩
                · as_aux_lemma =>
                  rw [hc8]
                  cbv
                  refine hF2 _ _ ?_
                  cbv
                  refine call_inline tab_holds eqs_holds mixed [] hO hX (by kernel_rfl) Try.func33 (by kernel_rfl) (by kernel_rfl) rfl ?_
                  intro X3 hX3 hF3
                  cbv
                  cases h1
                  try dsimp only at h0
                  obtain ⟨⟨ok7, x330⟩, h1, h0⟩ := bindS h0
                  obtain ⟨⟨l260, n100⟩, hv, h1⟩ := bindS h1
                  try dsimp only at h1
                  refine call_is hO hX3 (fn_rectangle_Minus hO hv) (by kernel_rfl) [0, 5] rfl ⟨rfl, rfl, rfl, rfl, trivial⟩ rfl ?_
                  cbv
                  refine hF3 _ _ ?_
                  cbv
                  obtain ⟨x299, h2, h1⟩ := bindS h1
                  replace h2 := condT h2 rfl
                  cases h2
                  try dsimp only at h1
                  obtain ⟨b126, hv, h1⟩ := bindS h1
                  refine call_is hO hX (fn_rectangle_Equal hO hv) (by kernel_rfl) [9, 7] rfl ⟨rfl, rfl, rfl, rfl, trivial⟩ rfl ?_
                  cbv
                  rcases condS h1 with ⟨hc9, h1⟩ | ⟨hc9, h1⟩
                  · as_aux_lemma =>
                    rw [hc9]
                    cbv
                    refine call_inline tab_holds eqs_holds mixed [] hO hX (by kernel_rfl) Try.func33 (by kernel_rfl) (by kernel_rfl) rfl ?_
                    intro X4 hX4 hF4
                    cbv
                    obtain ⟨⟨l261, n101⟩, hv, h1⟩ := bindS h1
                    try dsimp only at h1
                    refine call_is hO hX4 (fn_rectangle_Union hO hv) (by kernel_rfl) [5, 7] rfl ⟨rfl, rfl, rfl, rfl, trivial⟩ rfl ?_
                    cbv
                    refine hF4 _ _ ?_
                    cbv
                    obtain ⟨x301, h2, h1⟩ := bindS h1
                    replace h2 := condT h2 rfl
                    cases h2
                    try dsimp only at h1
                    obtain ⟨b127, hv, h1⟩ := bindS h1
                    refine call_is hO hX (fn_rectangle_Equal hO hv) (by kernel_rfl) [11, 0] rfl ⟨rfl, rfl, rfl, rfl, trivial⟩ rfl ?_
                    cbv
                    rcases condS h1 with ⟨hc10, h1⟩ | ⟨hc10, h1⟩
                    · as_aux_lemma =>
                      rw [hc10]
                      cbv
                      refine call_inline tab_holds eqs_holds mixed [] hO hX (by kernel_rfl) Try.func33 (by kernel_rfl) (by kernel_rfl) rfl ?_
                      intro X5 hX5 hF5
                      cbv
                      obtain ⟨⟨l262, n102⟩, hv, h1⟩ := bindS h1
                      try dsimp only at h1
                      refine call_is hO hX5 (fn_rectangle_Union hO hv) (by kernel_rfl) [0, 1] rfl ⟨rfl, rfl, rfl, rfl, trivial⟩ rfl ?_
                      cbv
                      refine hF5 _ _ ?_
                      cbv
                      refine call_inline tab_holds eqs_holds mixed [] hO hX (by kernel_rfl) Try.func33 (by kernel_rfl) (by kernel_rfl) rfl ?_
                      intro X6 hX6 hF6
                      cbv
                      obtain ⟨x303, h2, h1⟩ := bindS h1
                      replace h2 := condT h2 rfl
                      cases h2
                      try dsimp only at h1
                      obtain ⟨⟨l263, n103⟩, hv, h1⟩ := bindS h1
                      try dsimp only at h1
                      refine call_is hO hX6 (fn_rectangle_Union hO hv) (by kernel_rfl) [1, 0] rfl ⟨rfl, rfl, rfl, rfl, trivial⟩ rfl ?_
                      cbv
                      refine hF6 _ _ ?_
                      cbv
                      obtain ⟨x305, h2, h1⟩ := bindS h1
                      replace h2 := condT h2 rfl
                      cases h2
                      try dsimp only at h1
                      obtain ⟨b128, hv, h1⟩ := bindS h1
                      refine call_is hO hX (fn_rectangle_Equal hO hv) (by kernel_rfl) [13, 15] rfl ⟨rfl, rfl, rfl, rfl, trivial⟩ rfl ?_
                      cbv
                      rcases condS h1 with ⟨hc11, h1⟩ | ⟨hc11, h1⟩
                      · as_aux_lemma =>
                        rw [hc11]
                        cbv
                        refine call_inline tab_holds eqs_holds mixed [] hO hX (by kernel_rfl) Try.func33 (by kernel_rfl) (by kernel_rfl) rfl ?_
                        intro X7 hX7 hF7
                        cbv
                        obtain ⟨⟨l264, n104⟩, hv, h1⟩ := bindS h1
                        try dsimp only at h1
                        refine call_is hO hX7 (fn_rectangle_Meet hO hv) (by kernel_rfl) [1, 0] rfl ⟨rfl, rfl, rfl, rfl, trivial⟩ rfl ?_
                        cbv
                        refine hF7 _ _ ?_
                        cbv
                        obtain ⟨x307, h2, h1⟩ := bindS h1
                        replace h2 := condT h2 rfl
                        cases h2
                        try dsimp only at h1
                        obtain ⟨b129, hv, h1⟩ := bindS h1
                        refine call_is hO hX (fn_rectangle_Equal hO hv) (by kernel_rfl) [7, 17] rfl ⟨rfl, rfl, rfl, rfl, trivial⟩ rfl ?_
                        cbv
                        rcases condS h1 with ⟨hc12, h1⟩ | ⟨hc12, h1⟩
                        · as_aux_lemma =>
                          rw [hc12]
                          cbv
                          refine call_inline tab_holds eqs_holds mixed [] hO hX (by kernel_rfl) Try.func33 (by kernel_rfl) (by kernel_rfl) rfl ?_
                          intro X8 hX8 hF8
                          cbv
                          obtain ⟨⟨l265, n105⟩, hv, h1⟩ := bindS h1
                          try dsimp only at h1
                          refine call_is hO hX8 (fn_rectangle_Union hO hv) (by kernel_rfl) [1, 2] rfl ⟨rfl, rfl, rfl, rfl, trivial⟩ rfl ?_
                          cbv
                          refine hF8 _ _ ?_
                          cbv
                          refine call_inline tab_holds eqs_holds mixed [] hO hX (by kernel_rfl) Try.func33 (by kernel_rfl) (by kernel_rfl) rfl ?_
                          intro X9 hX9 hF9
                          cbv
                          obtain ⟨x309, h2, h1⟩ := bindS h1
                          replace h2 := condT h2 rfl
                          cases h2
                          try dsimp only at h1
                          obtain ⟨⟨l266, n106⟩, hv, h1⟩ := bindS h1
                          try dsimp only at h1
                          refine call_is hO hX9 (fn_rectangle_Meet hO hv) (by kernel_rfl) [0, 19] rfl ⟨rfl, rfl, rfl, rfl, trivial⟩ rfl ?_
                          cbv
                          refine hF9 _ _ ?_
                          cbv
                          refine call_inline tab_holds eqs_holds mixed [] hO hX (by kernel_rfl) Try.func33 (by kernel_rfl) (by kernel_rfl) rfl ?_
                          intro X10 hX10 hF10
                          cbv
                          obtain ⟨x311, h2, h1⟩ := bindS h1
                          replace h2 := condT h2 rfl
                          cases h2
                          try dsimp only at h1
                          obtain ⟨⟨l267, n107⟩, hv, h1⟩ := bindS h1
                          try dsimp only at h1
                          refine call_is hO hX10 (fn_rectangle_Meet hO hv) (by kernel_rfl) [0, 2] rfl ⟨rfl, rfl, rfl, rfl, trivial⟩ rfl ?_
                          cbv
                          refine hF10 _ _ ?_
                          cbv
                          refine call_inline tab_holds eqs_holds mixed [] hO hX (by kernel_rfl) Try.func33 (by kernel_rfl) (by kernel_rfl) rfl ?_
                          intro X11 hX11 hF11
                          cbv
                          obtain ⟨x313, h2, h1⟩ := bindS h1
                          replace h2 := condT h2 rfl
                          cases h2
                          try dsimp only at h1
                          obtain ⟨⟨l268, n108⟩, hv, h1⟩ := bindS h1
                          try dsimp only at h1
                          refine call_is hO hX11 (fn_rectangle_Union hO hv) (by kernel_rfl) [7, 23] rfl ⟨rfl, rfl, rfl, rfl, trivial⟩ rfl ?_
                          cbv
                          refine hF11 _ _ ?_
                          cbv
                          obtain ⟨x315, h2, h1⟩ := bindS h1
                          replace h2 := condT h2 rfl
                          cases h2
                          try dsimp only at h1
                          obtain ⟨b130, hv, h1⟩ := bindS h1
                          refine call_is hO hX (fn_rectangle_Equal hO hv) (by kernel_rfl) [21, 25] rfl ⟨rfl, rfl, rfl, rfl, trivial⟩ rfl ?_
                          cbv
                          rcases condS h1 with ⟨hc13, h1⟩ | ⟨hc13, h1⟩
                          · as_aux_lemma =>
                            rw [hc13]
                            cbv
                            refine call_inline tab_holds eqs_holds mixed [] hO hX (by kernel_rfl) Try.func33 (by kernel_rfl) (by kernel_rfl) rfl ?_
                            intro X12 hX12 hF12
                            cbv
                            obtain ⟨⟨l269, n109⟩, hv, h1⟩ := bindS h1
                            try dsimp only at h1
                            refine call_is hO hX12 (fn_rectangle_Union hO hv) (by kernel_rfl) [1, 2] rfl ⟨rfl, rfl, rfl, rfl, trivial⟩ rfl ?_
                            cbv
                            refine hF12 _ _ ?_
                            cbv
                            refine call_inline tab_holds eqs_holds mixed [] hO hX (by kernel_rfl) Try.func33 (by kernel_rfl) (by kernel_rfl) rfl ?_
                            intro X13 hX13 hF13
                            cbv
                            obtain ⟨x317, h2, h1⟩ := bindS h1
                            replace h2 := condT h2 rfl
                            cases h2
                            try dsimp only at h1
                            obtain ⟨⟨l270, n110⟩, hv, h1⟩ := bindS h1
                            try dsimp only at h1
                            refine call_is hO hX13 (fn_rectangle_Minus hO hv) (by kernel_rfl) [0, 27] rfl ⟨rfl, rfl, rfl, rfl, trivial⟩ rfl ?_
                            cbv
                            refine hF13 _ _ ?_
                            cbv
                            refine call_inline tab_holds eqs_holds mixed [] hO hX (by kernel_rfl) Try.func33 (by kernel_rfl) (by kernel_rfl) rfl ?_
                            intro X14 hX14 hF14
                            cbv
                            obtain ⟨x319, h2, h1⟩ := bindS h1
                            replace h2 := condT h2 rfl
                            cases h2
                            try dsimp only at h1
                            obtain ⟨⟨l271, n111⟩, hv, h1⟩ := bindS h1
                            try dsimp only at h1
                            refine call_is hO hX14 (fn_rectangle_Minus hO hv) (by kernel_rfl) [5, 2] rfl ⟨rfl, rfl, rfl, rfl, trivial⟩ rfl ?_
                            cbv
                            refine hF14 _ _ ?_
                            cbv
                            obtain ⟨x321, h2, h1⟩ := bindS h1
                            replace h2 := condT h2 rfl
                            cases h2
                            try dsimp only at h1
                            obtain ⟨b131, hv, h1⟩ := bindS h1
                            refine call_is hO hX (fn_rectangle_Equal hO hv) (by kernel_rfl) [29, 31] rfl ⟨rfl, rfl, rfl, rfl, trivial⟩ rfl ?_
                            cbv
                            rcases condS h1 with ⟨hc14, h1⟩ | ⟨hc14, h1⟩
                            · rw [hc14]
                              cbv
                              refine call_inline tab_holds eqs_holds mixed [] hO hX (by kernel_rfl) Try.func33 (by kernel_rfl) (by kernel_rfl) rfl ?_
                              intro X15 hX15 hF15
                              cbv
                              obtain ⟨⟨l272, n112⟩, hv, h1⟩ := bindS h1
                              try dsimp only at h1
                              refine call_is hO hX15 (fn_rectangle_Meet hO hv) (by kernel_rfl) [5, 1] rfl ⟨rfl, rfl, rfl, rfl, trivial⟩ rfl ?_
                              cbv
                              refine hF15 _ _ ?_
                              cbv
                              obtain ⟨x323, h2, h1⟩ := bindS h1
                              replace h2 := condT h2 rfl
                              cases h2
                              try dsimp only at h1
                              cases h1
                              try dsimp only at h0
                              obtain ⟨x332, h1, h0⟩ := bindS h0
                              rcases condS h1 with ⟨hc15, h1⟩ | ⟨hc15, h1⟩
                              · rw [hc15]
                                cbv
                                cases h1
                                try dsimp only at h0
                                cases h0
                                exact fin_ok hX rfl ⟨[], _, _, ⟨rfl, rfl⟩, rfl, rfl, rfl, rfl, by cbv; try simp⟩
                              · rw [hc15]
                                cbv
                                cases h1
                                try dsimp only at h0
                                cases h0
                                exact fin_ok hX rfl ⟨[], _, _, ⟨rfl, rfl⟩, rfl, rfl, rfl, rfl, by cbv; try simp⟩
                            · rw [hc14]
                              cbv
                              cases h1
                              try dsimp only at h0
                              obtain ⟨x332, h1, h0⟩ := bindS h0
                              replace h1 := condF h1 rfl
                              cases h1
                              try dsimp only at h0
                              cases h0
                              exact fin_ok hX rfl ⟨[], _, _, ⟨rfl, rfl⟩, rfl, rfl, rfl, rfl, by cbv; try simp⟩
                          · rw [hc13]
                            cbv
                            cases h1
                            try dsimp only at h0
                            obtain ⟨x332, h1, h0⟩ := bindS h0
                            replace h1 := condF h1 rfl
                            cases h1
                            try dsimp only at h0
                            cases h0
                            exact fin_ok hX rfl ⟨[], _, _, ⟨rfl, rfl⟩, rfl, rfl, rfl, rfl, by cbv; try simp⟩
                        · rw [hc12]
                          cbv
                          cases h1
                          try dsimp only at h0
                          obtain ⟨x332, h1, h0⟩ := bindS h0
                          replace h1 := condF h1 rfl
                          cases h1
                          try dsimp only at h0
                          cases h0
                          exact fin_ok hX rfl ⟨[], _, _, ⟨rfl, rfl⟩, rfl, rfl, rfl, rfl, by cbv; try simp⟩
                      · rw [hc11]
                        cbv
                        cases h1
                        try dsimp only at h0
                        obtain ⟨x332, h1, h0⟩ := bindS h0
                        replace h1 := condF h1 rfl
                        cases h1
                        try dsimp only at h0
                        cases h0
                        exact fin_ok hX rfl ⟨[], _, _, ⟨rfl, rfl⟩, rfl, rfl, rfl, rfl, by cbv; try simp⟩
                    · rw [hc10]
                      cbv
                      cases h1
                      try dsimp only at h0
                      obtain ⟨x332, h1, h0⟩ := bindS h0
                      replace h1 := condF h1 rfl
                      cases h1
                      try dsimp only at h0
                      cases h0
                      exact fin_ok hX rfl ⟨[], _, _, ⟨rfl, rfl⟩, rfl, rfl, rfl, rfl, by cbv; try simp⟩
                  · rw [hc9]
                    cbv
                    cases h1
                    try dsimp only at h0
                    obtain ⟨x332, h1, h0⟩ := bindS h0
                    replace h1 := condF h1 rfl
                    cases h1
                    try dsimp only at h0
                    cases h0
                    exact fin_ok hX rfl ⟨[], _, _, ⟨rfl, rfl⟩, rfl, rfl, rfl, rfl, by cbv; try simp⟩
                · as_aux_lemma =>
                  rw [hc8]
                  cbv
                  refine hF2 _ _ ?_
                  cbv
                  refine call_inline tab_holds eqs_holds mixed [] hO hX (by kernel_rfl) Try.func33 (by kernel_rfl) (by kernel_rfl) rfl ?_
                  intro X16 hX16 hF16
                  cbv
                  cases h1
                  try dsimp only at h0
                  obtain ⟨⟨ok7, x330⟩, h1, h0⟩ := bindS h0
                  obtain ⟨⟨l260, n100⟩, hv, h1⟩ := bindS h1
                  try dsimp only at h1
                  refine call_is hO hX16 (fn_rectangle_Minus hO hv) (by kernel_rfl) [0, 5] rfl ⟨rfl, rfl, rfl, rfl, trivial⟩ rfl ?_
                  cbv
                  obtain ⟨x299, h2, h1⟩ := bindS h1
                  rcases condS h2 with ⟨hc16, h2⟩ | ⟨hc16, h2⟩
                  · as_aux_lemma =>
                    rw [hc16]
                    cbv
                    refine hF16 _ _ ?_
                    cbv
                    cases h2
                    try dsimp only at h1
                    obtain ⟨b126, hv, h1⟩ := bindS h1
                    refine call_is hO hX (fn_rectangle_Equal hO hv) (by kernel_rfl) [9, 7] rfl ⟨rfl, rfl, rfl, rfl, trivial⟩ rfl ?_
                    cbv
                    rcases condS h1 with ⟨hc17, h1⟩ | ⟨hc17, h1⟩
                    · as_aux_lemma =>
                      rw [hc17]
                      cbv
                      refine call_inline tab_holds eqs_holds mixed [] hO hX (by kernel_rfl) Try.func33 (by kernel_rfl) (by kernel_rfl) rfl ?_
                      intro X17 hX17 hF17
                      cbv
                      obtain ⟨⟨l261, n101⟩, hv, h1⟩ := bindS h1
                      try dsimp only at h1
                      refine call_is hO hX17 (fn_rectangle_Union hO hv) (by kernel_rfl) [5, 7] rfl ⟨rfl, rfl, rfl, rfl, trivial⟩ rfl ?_
                      cbv
                      refine hF17 _ _ ?_
                      cbv
                      obtain ⟨x301, h2, h1⟩ := bindS h1
                      replace h2 := condT h2 rfl
                      cases h2
                      try dsimp only at h1
                      obtain ⟨b127, hv, h1⟩ := bindS h1
                      refine call_is hO hX (fn_rectangle_Equal hO hv) (by kernel_rfl) [11, 0] rfl ⟨rfl, rfl, rfl, rfl, trivial⟩ rfl ?_
                      cbv
                      rcases condS h1 with ⟨hc18, h1⟩ | ⟨hc18, h1⟩
                      · as_aux_lemma =>
                        rw [hc18]
                        cbv
                        refine call_inline tab_holds eqs_holds mixed [] hO hX (by kernel_rfl) Try.func33 (by kernel_rfl) (by kernel_rfl) rfl ?_
                        intro X18 hX18 hF18
                        cbv
                        obtain ⟨⟨l262, n102⟩, hv, h1⟩ := bindS h1
                        try dsimp only at h1
                        refine call_is hO hX18 (fn_rectangle_Union hO hv) (by kernel_rfl) [0, 1] rfl ⟨rfl, rfl, rfl, rfl, trivial⟩ rfl ?_
                        cbv
                        refine hF18 _ _ ?_
                        cbv
                        refine call_inline tab_holds eqs_holds mixed [] hO hX (by kernel_rfl) Try.func33 (by kernel_rfl) (by kernel_rfl) rfl ?_
                        intro X19 hX19 hF19
                        cbv
                        obtain ⟨x303, h2, h1⟩ := bindS h1
                        replace h2 := condT h2 rfl
                        cases h2
                        try dsimp only at h1
                        obtain ⟨⟨l263, n103⟩, hv, h1⟩ := bindS h1
                        try dsimp only at h1
                        refine call_is hO hX19 (fn_rectangle_Union hO hv) (by kernel_rfl) [1, 0] rfl ⟨rfl, rfl, rfl, rfl, trivial⟩ rfl ?_
                        cbv
                        refine hF19 _ _ ?_
                        cbv
                        obtain ⟨x305, h2, h1⟩ := bindS h1
                        replace h2 := condT h2 rfl
                        cases h2
                        try dsimp only at h1
                        obtain ⟨b128, hv, h1⟩ := bindS h1
                        refine call_is hO hX (fn_rectangle_Equal hO hv) (by kernel_rfl) [13, 15] rfl ⟨rfl, rfl, rfl, rfl, trivial⟩ rfl ?_
                        cbv
                        rcases condS h1 with ⟨hc19, h1⟩ | ⟨hc19, h1⟩
                        · as_aux_lemma =>
                          rw [hc19]
                          cbv
                          refine call_inline tab_holds eqs_holds mixed [] hO hX (by kernel_rfl) Try.func33 (by kernel_rfl) (by kernel_rfl) rfl ?_
                          intro X20 hX20 hF20
                          cbv
                          obtain ⟨⟨l264, n104⟩, hv, h1⟩ := bindS h1
                          try dsimp only at h1
                          refine call_is hO hX20 (fn_rectangle_Meet hO hv) (by kernel_rfl) [1, 0] rfl ⟨rfl, rfl, rfl, rfl, trivial⟩ rfl ?_
                          cbv
                          refine hF20 _ _ ?_
                          cbv
                          obtain ⟨x307, h2, h1⟩ := bindS h1
                          replace h2 := condT h2 rfl
                          cases h2
                          try dsimp only at h1
                          obtain ⟨b129, hv, h1⟩ := bindS h1
                          refine call_is hO hX (fn_rectangle_Equal hO hv) (by kernel_rfl) [7, 17] rfl ⟨rfl, rfl, rfl, rfl, trivial⟩ rfl ?_
                          cbv
                          rcases condS h1 with ⟨hc20, h1⟩ | ⟨hc20, h1⟩
                          · as_aux_lemma =>
                            rw [hc20]
                            cbv
                            refine call_inline tab_holds eqs_holds mixed [] hO hX (by kernel_rfl) Try.func33 (by kernel_rfl) (by kernel_rfl) rfl ?_
                            intro X21 hX21 hF21
                            cbv
                            obtain ⟨⟨l265, n105⟩, hv, h1⟩ := bindS h1
                            try dsimp only at h1
                            refine call_is hO hX21 (fn_rectangle_Union hO hv) (by kernel_rfl) [1, 2] rfl ⟨rfl, rfl, rfl, rfl, trivial⟩ rfl ?_
                            cbv
                            refine hF21 _ _ ?_
                            cbv
                            refine call_inline tab_holds eqs_holds mixed [] hO hX (by kernel_rfl) Try.func33 (by kernel_rfl) (by kernel_rfl) rfl ?_
                            intro X22 hX22 hF22
                            cbv
                            obtain ⟨x309, h2, h1⟩ := bindS h1
                            replace h2 := condT h2 rfl
                            cases h2
                            try dsimp only at h1
                            obtain ⟨⟨l266, n106⟩, hv, h1⟩ := bindS h1
                            try dsimp only at h1
                            refine call_is hO hX22 (fn_rectangle_Meet hO hv) (by kernel_rfl) [0, 19] rfl ⟨rfl, rfl, rfl, rfl, trivial⟩ rfl ?_
                            cbv
                            refine hF22 _ _ ?_
                            cbv
                            refine call_inline tab_holds eqs_holds mixed [] hO hX (by kernel_rfl) Try.func33 (by kernel_rfl) (by kernel_rfl) rfl ?_
                            intro X23 hX23 hF23
                            cbv
                            obtain ⟨x311, h2, h1⟩ := bindS h1
                            replace h2 := condT h2 rfl
                            cases h2
                            try dsimp only at h1
                            obtain ⟨⟨l267, n107⟩, hv, h1⟩ := bindS h1
                            try dsimp only at h1
                            refine call_is hO hX23 (fn_rectangle_Meet hO hv) (by kernel_rfl) [0, 2] rfl ⟨rfl, rfl, rfl, rfl, trivial⟩ rfl ?_
                            cbv
                            refine hF23 _ _ ?_
                            cbv
                            refine call_inline tab_holds eqs_holds mixed [] hO hX (by kernel_rfl) Try.func33 (by kernel_rfl) (by kernel_rfl) rfl ?_
                            intro X24 hX24 hF24
                            cbv
                            obtain ⟨x313, h2, h1⟩ := bindS h1
                            replace h2 := condT h2 rfl
                            cases h2
                            try dsimp only at h1
                            obtain ⟨⟨l268, n108⟩, hv, h1⟩ := bindS h1
                            try dsimp only at h1
                            refine call_is hO hX24 (fn_rectangle_Union hO hv) (by kernel_rfl) [7, 23] rfl ⟨rfl, rfl, rfl, rfl, trivial⟩ rfl ?_
                            cbv
                            refine hF24 _ _ ?_
                            cbv
                            obtain ⟨x315, h2, h1⟩ := bindS h1
                            replace h2 := condT h2 rfl
                            cases h2
                            try dsimp only at h1
                            obtain ⟨b130, hv, h1⟩ := bindS h1
                            refine call_is hO hX (fn_rectangle_Equal hO hv) (by kernel_rfl) [21, 25] rfl ⟨rfl, rfl, rfl, rfl, trivial⟩ rfl ?_
                            cbv
                            rcases condS h1 with ⟨hc21, h1⟩ | ⟨hc21, h1⟩
                            · as_aux_lemma =>
                              rw [hc21]
                              cbv
                              refine call_inline tab_holds eqs_holds mixed [] hO hX (by kernel_rfl) Try.func33 (by kernel_rfl) (by kernel_rfl) rfl ?_
                              intro X25 hX25 hF25
                              cbv
                              obtain ⟨⟨l269, n109⟩, hv, h1⟩ := bindS h1
                              try dsimp only at h1
                              refine call_is hO hX25 (fn_rectangle_Union hO hv) (by kernel_rfl) [1, 2] rfl ⟨rfl, rfl, rfl, rfl, trivial⟩ rfl ?_
                              cbv
                              refine hF25 _ _ ?_
                              cbv
                              refine call_inline tab_holds eqs_holds mixed [] hO hX (by kernel_rfl) Try.func33 (by kernel_rfl) (by kernel_rfl) rfl ?_
                              intro X26 hX26 hF26
                              cbv
                              obtain ⟨x317, h2, h1⟩ := bindS h1
                              replace h2 := condT h2 rfl
                              cases h2
                              try dsimp only at h1
                              obtain ⟨⟨l270, n110⟩, hv, h1⟩ := bindS h1
                              try dsimp only at h1
                              refine call_is hO hX26 (fn_rectangle_Minus hO hv) (by kernel_rfl) [0, 27] rfl ⟨rfl, rfl, rfl, rfl, trivial⟩ rfl ?_
                              cbv
                              refine hF26 _ _ ?_
                              cbv
                              refine call_inline tab_holds eqs_holds mixed [] hO hX (by kernel_rfl) Try.func33 (by kernel_rfl) (by kernel_rfl) rfl ?_
                              intro X27 hX27 hF27
                              cbv
                              obtain ⟨x319, h2, h1⟩ := bindS h1
                              replace h2 := condT h2 rfl
                              cases h2
                              try dsimp only at h1
                              obtain ⟨⟨l271, n111⟩, hv, h1⟩ := bindS h1
                              try dsimp only at h1
                              refine call_is hO hX27 (fn_rectangle_Minus hO hv) (by kernel_rfl) [5, 2] rfl ⟨rfl, rfl, rfl, rfl, trivial⟩ rfl ?_
                              cbv
                              refine hF27 _ _ ?_
                              cbv
                              obtain ⟨x321, h2, h1⟩ := bindS h1
                              replace h2 := condT h2 rfl
                              cases h2
                              try dsimp only at h1
                              obtain ⟨b131, hv, h1⟩ := bindS h1
                              refine call_is hO hX (fn_rectangle_Equal hO hv) (by kernel_rfl) [29, 31] rfl ⟨rfl, rfl, rfl, rfl, trivial⟩ rfl ?_
                              cbv
                              rcases condS h1 with ⟨hc22, h1⟩ | ⟨hc22, h1⟩
                              · rw [hc22]
                                cbv
                                refine call_inline tab_holds eqs_holds mixed [] hO hX (by kernel_rfl) Try.func33 (by kernel_rfl) (by kernel_rfl) rfl ?_
                                intro X28 hX28 hF28
                                cbv
                                obtain ⟨⟨l272, n112⟩, hv, h1⟩ := bindS h1
                                try dsimp only at h1
                                refine call_is hO hX28 (fn_rectangle_Meet hO hv) (by kernel_rfl) [5, 1] rfl ⟨rfl, rfl, rfl, rfl, trivial⟩ rfl ?_
                                cbv
                                refine hF28 _ _ ?_
                                cbv
                                obtain ⟨x323, h2, h1⟩ := bindS h1
                                replace h2 := condT h2 rfl
                                cases h2
                                try dsimp only at h1
                                cases h1
                                try dsimp only at h0
                                obtain ⟨x332, h1, h0⟩ := bindS h0
                                rcases condS h1 with ⟨hc23, h1⟩ | ⟨hc23, h1⟩
                                · rw [hc23]
                                  cbv
                                  cases h1
                                  try dsimp only at h0
                                  cases h0
                                  exact fin_ok hX rfl ⟨[], _, _, ⟨rfl, rfl⟩, rfl, rfl, rfl, rfl, by cbv; try simp⟩
                                · rw [hc23]
                                  cbv
                                  cases h1
                                  try dsimp only at h0
                                  cases h0
                                  exact fin_ok hX rfl ⟨[], _, _, ⟨rfl, rfl⟩, rfl, rfl, rfl, rfl, by cbv; try simp⟩
                              · rw [hc22]
                                cbv
                                cases h1
                                try dsimp only at h0
                                obtain ⟨x332, h1, h0⟩ := bindS h0
                                replace h1 := condF h1 rfl
                                cases h1
                                try dsimp only at h0
                                cases h0
                                exact fin_ok hX rfl ⟨[], _, _, ⟨rfl, rfl⟩, rfl, rfl, rfl, rfl, by cbv; try simp⟩
                            · rw [hc21]
                              cbv
                              cases h1
                              try dsimp only at h0
                              obtain ⟨x332, h1, h0⟩ := bindS h0
                              replace h1 := condF h1 rfl
                              cases h1
                              try dsimp only at h0
                              cases h0
                              exact fin_ok hX rfl ⟨[], _, _, ⟨rfl, rfl⟩, rfl, rfl, rfl, rfl, by cbv; try simp⟩
                          · rw [hc20]
                            cbv
                            cases h1
                            try dsimp only at h0
                            obtain ⟨x332, h1, h0⟩ := bindS h0
                            replace h1 := condF h1 rfl
                            cases h1
                            try dsimp only at h0
                            cases h0
                            exact fin_ok hX rfl ⟨[], _, _, ⟨rfl, rfl⟩, rfl, rfl, rfl, rfl, by cbv; try simp⟩
                        · rw [hc19]
                          cbv
                          cases h1
                          try dsimp only at h0
                          obtain ⟨x332, h1, h0⟩ := bindS h0
                          replace h1 := condF h1 rfl
                          cases h1
                          try dsimp only at h0
                          cases h0
                          exact fin_ok hX rfl ⟨[], _, _, ⟨rfl, rfl⟩, rfl, rfl, rfl, rfl, by cbv; try simp⟩
                      · rw [hc18]
                        cbv
                        cases h1
                        try dsimp only at h0
                        obtain ⟨x332, h1, h0⟩ := bindS h0
                        replace h1 := condF h1 rfl
                        cases h1
                        try dsimp only at h0
                        cases h0
                        exact fin_ok hX rfl ⟨[], _, _, ⟨rfl, rfl⟩, rfl, rfl, rfl, rfl, by cbv; try simp⟩
                    · rw [hc17]
                      cbv
                      cases h1
                      try dsimp only at h0
                      obtain ⟨x332, h1, h0⟩ := bindS h0
                      replace h1 := condF h1 rfl
                      cases h1
                      try dsimp only at h0
                      cases h0
                      exact fin_ok hX rfl ⟨[], _, _, ⟨rfl, rfl⟩, rfl, rfl, rfl, rfl, by cbv; try simp⟩
                  · as_aux_lemma =>
                    rw [hc16]
                    cbv
                    refine hF16 _ _ ?_
                    cbv
                    cases h2
                    try dsimp only at h1
                    obtain ⟨b126, hv, h1⟩ := bindS h1
                    refine call_is hO hX (fn_rectangle_Equal hO hv) (by kernel_rfl) [9, 7] rfl ⟨rfl, rfl, rfl, rfl, trivial⟩ rfl ?_
                    cbv
                    rcases condS h1 with ⟨hc24, h1⟩ | ⟨hc24, h1⟩
                    · as_aux_lemma =>
                      rw [hc24]
                      cbv
                      refine call_inline tab_holds eqs_holds mixed [] hO hX (by kernel_rfl) Try.func33 (by kernel_rfl) (by kernel_rfl) rfl ?_
                      intro X29 hX29 hF29
                      cbv
                      obtain ⟨⟨l261, n101⟩, hv, h1⟩ := bindS h1
                      try dsimp only at h1
                      refine call_is hO hX29 (fn_rectangle_Union hO hv) (by kernel_rfl) [5, 7] rfl ⟨rfl, rfl, rfl, rfl, trivial⟩ rfl ?_
                      cbv
                      obtain ⟨x301, h2, h1⟩ := bindS h1
                      rcases condS h2 with ⟨hc25, h2⟩ | ⟨hc25, h2⟩
                      · as_aux_lemma =>
                        rw [hc25]
                        cbv
                        refine hF29 _ _ ?_
                        cbv
                        cases h2
                        try dsimp only at h1
                        obtain ⟨b127, hv, h1⟩ := bindS h1
                        refine call_is hO hX (fn_rectangle_Equal hO hv) (by kernel_rfl) [11, 0] rfl ⟨rfl, rfl, rfl, rfl, trivial⟩ rfl ?_
                        cbv
                        rcases condS h1 with ⟨hc26, h1⟩ | ⟨hc26, h1⟩
                        · as_aux_lemma =>
                          rw [hc26]
                          cbv
                          refine call_inline tab_holds eqs_holds mixed [] hO hX (by kernel_rfl) Try.func33 (by kernel_rfl) (by kernel_rfl) rfl ?_
                          intro X30 hX30 hF30
                          cbv
                          obtain ⟨⟨l262, n102⟩, hv, h1⟩ := bindS h1
                          try dsimp only at h1
                          refine call_is hO hX30 (fn_rectangle_Union hO hv) (by kernel_rfl) [0, 1] rfl ⟨rfl, rfl, rfl, rfl, trivial⟩ rfl ?_
                          cbv
                          refine hF30 _ _ ?_
                          cbv
                          refine call_inline tab_holds eqs_holds mixed [] hO hX (by kernel_rfl) Try.func33 (by kernel_rfl) (by kernel_rfl) rfl ?_
                          intro X31 hX31 hF31
                          cbv
                          obtain ⟨x303, h2, h1⟩ := bindS h1
                          replace h2 := condT h2 rfl
                          cases h2
                          try dsimp only at h1
                          obtain ⟨⟨l263, n103⟩, hv, h1⟩ := bindS h1
                          try dsimp only at h1
                          refine call_is hO hX31 (fn_rectangle_Union hO hv) (by kernel_rfl) [1, 0] rfl ⟨rfl, rfl, rfl, rfl, trivial⟩ rfl ?_
                          cbv
                          refine hF31 _ _ ?_
                          cbv
                          obtain ⟨x305, h2, h1⟩ := bindS h1
                          replace h2 := condT h2 rfl
                          cases h2
                          try dsimp only at h1
                          obtain ⟨b128, hv, h1⟩ := bindS h1
                          refine call_is hO hX (fn_rectangle_Equal hO hv) (by kernel_rfl) [13, 15] rfl ⟨rfl, rfl, rfl, rfl, trivial⟩ rfl ?_
                          cbv
                          rcases condS h1 with ⟨hc27, h1⟩ | ⟨hc27, h1⟩
                          · as_aux_lemma =>
                            rw [hc27]
                            cbv
                            refine call_inline tab_holds eqs_holds mixed [] hO hX (by kernel_rfl) Try.func33 (by kernel_rfl) (by kernel_rfl) rfl ?_
                            intro X32 hX32 hF32
                            cbv
                            obtain ⟨⟨l264, n104⟩, hv, h1⟩ := bindS h1
                            try dsimp only at h1
                            refine call_is hO hX32 (fn_rectangle_Meet hO hv) (by kernel_rfl) [1, 0] rfl ⟨rfl, rfl, rfl, rfl, trivial⟩ rfl ?_
                            cbv
                            refine hF32 _ _ ?_
                            cbv
                            obtain ⟨x307, h2, h1⟩ := bindS h1
                            replace h2 := condT h2 rfl
                            cases h2
                            try dsimp only at h1
                            obtain ⟨b129, hv, h1⟩ := bindS h1
                            refine call_is hO hX (fn_rectangle_Equal hO hv) (by kernel_rfl) [7, 17] rfl ⟨rfl, rfl, rfl, rfl, trivial⟩ rfl ?_
                            cbv
                            rcases condS h1 with ⟨hc28, h1⟩ | ⟨hc28, h1⟩
                            · as_aux_lemma =>
                              rw [hc28]
                              cbv
                              refine call_inline tab_holds eqs_holds mixed [] hO hX (by kernel_rfl) Try.func33 (by kernel_rfl) (by kernel_rfl) rfl ?_
                              intro X33 hX33 hF33
                              cbv
                              obtain ⟨⟨l265, n105⟩, hv, h1⟩ := bindS h1
                              try dsimp only at h1
                              refine call_is hO hX33 (fn_rectangle_Union hO hv) (by kernel_rfl) [1, 2] rfl ⟨rfl, rfl, rfl, rfl, trivial⟩ rfl ?_
                              cbv
                              refine hF33 _ _ ?_
                              cbv
                              refine call_inline tab_holds eqs_holds mixed [] hO hX (by kernel_rfl) Try.func33 (by kernel_rfl) (by kernel_rfl) rfl ?_
                              intro X34 hX34 hF34
                              cbv
                              obtain ⟨x309, h2, h1⟩ := bindS h1
                              replace h2 := condT h2 rfl
                              cases h2
                              try dsimp only at h1
                              obtain ⟨⟨l266, n106⟩, hv, h1⟩ := bindS h1
                              try dsimp only at h1
                              refine call_is hO hX34 (fn_rectangle_Meet hO hv) (by kernel_rfl) [0, 19] rfl ⟨rfl, rfl, rfl, rfl, trivial⟩ rfl ?_
                              cbv
                              refine hF34 _ _ ?_
                              cbv
                              refine call_inline tab_holds eqs_holds mixed [] hO hX (by kernel_rfl) Try.func33 (by kernel_rfl) (by kernel_rfl) rfl ?_
                              intro X35 hX35 hF35
                              cbv
                              obtain ⟨x311, h2, h1⟩ := bindS h1
                              replace h2 := condT h2 rfl
                              cases h2
                              try dsimp only at h1
                              obtain ⟨⟨l267, n107⟩, hv, h1⟩ := bindS h1
                              try dsimp only at h1
                              refine call_is hO hX35 (fn_rectangle_Meet hO hv) (by kernel_rfl) [0, 2] rfl ⟨rfl, rfl, rfl, rfl, trivial⟩ rfl ?_
                              cbv
                              refine hF35 _ _ ?_
                              cbv
                              refine call_inline tab_holds eqs_holds mixed [] hO hX (by kernel_rfl) Try.func33 (by kernel_rfl) (by kernel_rfl) rfl ?_
                              intro X36 hX36 hF36
                              cbv
                              obtain ⟨x313, h2, h1⟩ := bindS h1
                              replace h2 := condT h2 rfl
                              cases h2
                              try dsimp only at h1
                              obtain ⟨⟨l268, n108⟩, hv, h1⟩ := bindS h1
                              try dsimp only at h1
                              refine call_is hO hX36 (fn_rectangle_Union hO hv) (by kernel_rfl) [7, 23] rfl ⟨rfl, rfl, rfl, rfl, trivial⟩ rfl ?_
                              cbv
                              refine hF36 _ _ ?_
                              cbv
                              obtain ⟨x315, h2, h1⟩ := bindS h1
                              replace h2 := condT h2 rfl
                              cases h2
                              try dsimp only at h1
                              obtain ⟨b130, hv, h1⟩ := bindS h1
                              refine call_is hO hX (fn_rectangle_Equal hO hv) (by kernel_rfl) [21, 25] rfl ⟨rfl, rfl, rfl, rfl, trivial⟩ rfl ?_
                              cbv
                              rcases condS h1 with ⟨hc29, h1⟩ | ⟨hc29, h1⟩
                              · as_aux_lemma =>
                                rw [hc29]
                                cbv
                                refine call_inline tab_holds eqs_holds mixed [] hO hX (by kernel_rfl) Try.func33 (by kernel_rfl) (by kernel_rfl) rfl ?_
                                intro X37 hX37 hF37
                                cbv
                                obtain ⟨⟨l269, n109⟩, hv, h1⟩ := bindS h1
                                try dsimp only at h1
                                refine call_is hO hX37 (fn_rectangle_Union hO hv) (by kernel_rfl) [1, 2] rfl ⟨rfl, rfl, rfl, rfl, trivial⟩ rfl ?_
                                cbv
                                refine hF37 _ _ ?_
                                cbv
                                refine call_inline tab_holds eqs_holds mixed [] hO hX (by kernel_rfl) Try.func33 (by kernel_rfl) (by kernel_rfl) rfl ?_
                                intro X38 hX38 hF38
                                cbv
                                obtain ⟨x317, h2, h1⟩ := bindS h1
                                replace h2 := condT h2 rfl
                                cases h2
                                try dsimp only at h1
                                obtain ⟨⟨l270, n110⟩, hv, h1⟩ := bindS h1
                                try dsimp only at h1
                                refine call_is hO hX38 (fn_rectangle_Minus hO hv) (by kernel_rfl) [0, 27] rfl ⟨rfl, rfl, rfl, rfl, trivial⟩ rfl ?_
                                cbv
                                refine hF38 _ _ ?_
                                cbv
                                refine call_inline tab_holds eqs_holds mixed [] hO hX (by kernel_rfl) Try.func33 (by kernel_rfl) (by kernel_rfl) rfl ?_
                                intro X39 hX39 hF39
                                cbv
                                obtain ⟨x319, h2, h1⟩ := bindS h1
                                replace h2 := condT h2 rfl
                                cases h2
                                try dsimp only at h1
                                obtain ⟨⟨l271, n111⟩, hv, h1⟩ := bindS h1
                                try dsimp only at h1
                                refine call_is hO hX39 (fn_rectangle_Minus hO hv) (by kernel_rfl) [5, 2] rfl ⟨rfl, rfl, rfl, rfl, trivial⟩ rfl ?_
                                cbv
                                refine hF39 _ _ ?_
                                cbv
                                obtain ⟨x321, h2, h1⟩ := bindS h1
                                replace h2 := condT h2 rfl
                                cases h2
                                try dsimp only at h1
                                obtain ⟨b131, hv, h1⟩ := bindS h1
                                refine call_is hO hX (fn_rectangle_Equal hO hv) (by kernel_rfl) [29, 31] rfl ⟨rfl, rfl, rfl, rfl, trivial⟩ rfl ?_
                                cbv
                                rcases condS h1 with ⟨hc30, h1⟩ | ⟨hc30, h1⟩
                                · rw [hc30]
                                  cbv
                                  refine call_inline tab_holds eqs_holds mixed [] hO hX (by kernel_rfl) Try.func33 (by kernel_rfl) (by kernel_rfl) rfl ?_
                                  intro X40 hX40 hF40
                                  cbv
                                  obtain ⟨⟨l272, n112⟩, hv, h1⟩ := bindS h1
                                  try dsimp only at h1
                                  refine call_is hO hX40 (fn_rectangle_Meet hO hv) (by kernel_rfl) [5, 1] rfl ⟨rfl, rfl, rfl, rfl, trivial⟩ rfl ?_
                                  cbv
                                  refine hF40 _ _ ?_
                                  cbv
                                  obtain ⟨x323, h2, h1⟩ := bindS h1
                                  replace h2 := condT h2 rfl
                                  cases h2
                                  try dsimp only at h1
                                  cases h1
                                  try dsimp only at h0
                                  obtain ⟨x332, h1, h0⟩ := bindS h0
                                  rcases condS h1 with ⟨hc31, h1⟩ | ⟨hc31, h1⟩
                                  · rw [hc31]
                                    cbv
                                    cases h1
                                    try dsimp only at h0
                                    cases h0
                                    exact fin_ok hX rfl ⟨[], _, _, ⟨rfl, rfl⟩, rfl, rfl, rfl, rfl, by cbv; try simp⟩
                                  · rw [hc31]
                                    cbv
                                    cases h1
                                    try dsimp only at h0
                                    cases h0
                                    exact fin_ok hX rfl ⟨[], _, _, ⟨rfl, rfl⟩, rfl, rfl, rfl, rfl, by cbv; try simp⟩
                                · rw [hc30]
                                  cbv
                                  cases h1
                                  try dsimp only at h0
                                  obtain ⟨x332, h1, h0⟩ := bindS h0
                                  replace h1 := condF h1 rfl
                                  cases h1
                                  try dsimp only at h0
                                  cases h0
                                  exact fin_ok hX rfl ⟨[], _, _, ⟨rfl, rfl⟩, rfl, rfl, rfl, rfl, by cbv; try simp⟩
                              · rw [hc29]
                                cbv
                                cases h1
                                try dsimp only at h0
                                obtain ⟨x332, h1, h0⟩ := bindS h0
                                replace h1 := condF h1 rfl
                                cases h1
                                try dsimp only at h0
                                cases h0
                                exact fin_ok hX rfl ⟨[], _, _, ⟨rfl, rfl⟩, rfl, rfl, rfl, rfl, by cbv; try simp⟩
                            · rw [hc28]
                              cbv
                              cases h1
                              try dsimp only at h0
                              obtain ⟨x332, h1, h0⟩ := bindS h0
                              replace h1 := condF h1 rfl
                              cases h1
                              try dsimp only at h0
                              cases h0
                              exact fin_ok hX rfl ⟨[], _, _, ⟨rfl, rfl⟩, rfl, rfl, rfl, rfl, by cbv; try simp⟩
                          · rw [hc27]
                            cbv
                            cases h1
                            try dsimp only at h0
                            obtain ⟨x332, h1, h0⟩ := bindS h0
                            replace h1 := condF h1 rfl
                            cases h1
                            try dsimp only at h0
                            cases h0
                            exact fin_ok hX rfl ⟨[], _, _, ⟨rfl, rfl⟩, rfl, rfl, rfl, rfl, by cbv; try simp⟩
                        · rw [hc26]
                          cbv
                          cases h1
                          try dsimp only at h0
                          obtain ⟨x332, h1, h0⟩ := bindS h0
                          replace h1 := condF h1 rfl
                          cases h1
                          try dsimp only at h0
                          cases h0
                          exact fin_ok hX rfl ⟨[], _, _, ⟨rfl, rfl⟩, rfl, rfl, rfl, rfl, by cbv; try simp⟩
                      · as_aux_lemma =>
                        rw [hc25]
                        cbv
                        refine hF29 _ _ ?_
                        cbv
                        cases h2
                        try dsimp only at h1
                        obtain ⟨b127, hv, h1⟩ := bindS h1
                        refine call_is hO hX (fn_rectangle_Equal hO hv) (by kernel_rfl) [11, 0] rfl ⟨rfl, rfl, rfl, rfl, trivial⟩ rfl ?_
                        cbv
                        rcases condS h1 with ⟨hc32, h1⟩ | ⟨hc32, h1⟩
                        · as_aux_lemma =>
                          rw [hc32]
                          cbv
                          refine call_inline tab_holds eqs_holds mixed [] hO hX (by kernel_rfl) Try.func33 (by kernel_rfl) (by kernel_rfl) rfl ?_
                          intro X41 hX41 hF41
                          cbv
                          obtain ⟨⟨l262, n102⟩, hv, h1⟩ := bindS h1
                          try dsimp only at h1
                          refine call_is hO hX41 (fn_rectangle_Union hO hv) (by kernel_rfl) [0, 1] rfl ⟨rfl, rfl, rfl, rfl, trivial⟩ rfl ?_
                          cbv
                          obtain ⟨x303, h2, h1⟩ := bindS h1
                          rcases condS h2 with ⟨hc33, h2⟩ | ⟨hc33, h2⟩
                          · as_aux_lemma =>
                            rw [hc33]
                            cbv
                            refine hF41 _ _ ?_
                            cbv
                            refine call_inline tab_holds eqs_holds mixed [] hO hX (by kernel_rfl) Try.func33 (by kernel_rfl) (by kernel_rfl) rfl ?_
                            intro X42 hX42 hF42
                            cbv
                            cases h2
                            try dsimp only at h1
                            obtain ⟨⟨l263, n103⟩, hv, h1⟩ := bindS h1
                            try dsimp only at h1
                            refine call_is hO hX42 (fn_rectangle_Union hO hv) (by kernel_rfl) [1, 0] rfl ⟨rfl, rfl, rfl, rfl, trivial⟩ rfl ?_
                            cbv
                            refine hF42 _ _ ?_
                            cbv
                            obtain ⟨x305, h2, h1⟩ := bindS h1
                            replace h2 := condT h2 rfl
                            cases h2
                            try dsimp only at h1
                            obtain ⟨b128, hv, h1⟩ := bindS h1
                            refine call_is hO hX (fn_rectangle_Equal hO hv) (by kernel_rfl) [13, 15] rfl ⟨rfl, rfl, rfl, rfl, trivial⟩ rfl ?_
                            cbv
                            rcases condS h1 with ⟨hc34, h1⟩ | ⟨hc34, h1⟩
                            · as_aux_lemma =>
                              rw [hc34]
                              cbv
                              refine call_inline tab_holds eqs_holds mixed [] hO hX (by kernel_rfl) Try.func33 (by kernel_rfl) (by kernel_rfl) rfl ?_
                              intro X43 hX43 hF43
                              cbv
                              obtain ⟨⟨l264, n104⟩, hv, h1⟩ := bindS h1
                              try dsimp only at h1
                              refine call_is hO hX43 (fn_rectangle_Meet hO hv) (by kernel_rfl) [1, 0] rfl ⟨rfl, rfl, rfl, rfl, trivial⟩ rfl ?_
                              cbv
                              refine hF43 _ _ ?_
                              cbv
                              obtain ⟨x307, h2, h1⟩ := bindS h1
                              replace h2 := condT h2 rfl
                              cases h2
                              try dsimp only at h1
                              obtain ⟨b129, hv, h1⟩ := bindS h1
                              refine call_is hO hX (fn_rectangle_Equal hO hv) (by kernel_rfl) [7, 17] rfl ⟨rfl, rfl, rfl, rfl, trivial⟩ rfl ?_
                              cbv
                              rcases condS h1 with ⟨hc35, h1⟩ | ⟨hc35, h1⟩
                              · as_aux_lemma =>
                                rw [hc35]
                                cbv
                                refine call_inline tab_holds eqs_holds mixed [] hO hX (by kernel_rfl) Try.func33 (by kernel_rfl) (by kernel_rfl) rfl ?_
                                intro X44 hX44 hF44
                                cbv
                                obtain ⟨⟨l265, n105⟩, hv, h1⟩ := bindS h1
                                try dsimp only at h1
                                refine call_is hO hX44 (fn_rectangle_Union hO hv) (by kernel_rfl) [1, 2] rfl ⟨rfl, rfl, rfl, rfl, trivial⟩ rfl ?_
                                cbv
                                refine hF44 _ _ ?_
                                cbv
                                refine call_inline tab_holds eqs_holds mixed [] hO hX (by kernel_rfl) Try.func33 (by kernel_rfl) (by kernel_rfl) rfl ?_
                                intro X45 hX45 hF45
                                cbv
                                obtain ⟨x309, h2, h1⟩ := bindS h1
                                replace h2 := condT h2 rfl
                                cases h2
                                try dsimp only at h1
                                obtain ⟨⟨l266, n106⟩, hv, h1⟩ := bindS h1
                                try dsimp only at h1
                                refine call_is hO hX45 (fn_rectangle_Meet hO hv) (by kernel_rfl) [0, 19] rfl ⟨rfl, rfl, rfl, rfl, trivial⟩ rfl ?_
                                cbv
                                refine hF45 _ _ ?_
                                cbv
                                refine call_inline tab_holds eqs_holds mixed [] hO hX (by kernel_rfl) Try.func33 (by kernel_rfl) (by kernel_rfl) rfl ?_
                                intro X46 hX46 hF46
                                cbv
                                obtain ⟨x311, h2, h1⟩ := bindS h1
                                replace h2 := condT h2 rfl
                                cases h2
                                try dsimp only at h1
                                obtain ⟨⟨l267, n107⟩, hv, h1⟩ := bindS h1
                                try dsimp only at h1
                                refine call_is hO hX46 (fn_rectangle_Meet hO hv) (by kernel_rfl) [0, 2] rfl ⟨rfl, rfl, rfl, rfl, trivial⟩ rfl ?_
                                cbv
                                refine hF46 _ _ ?_
                                cbv
                                refine call_inline tab_holds eqs_holds mixed [] hO hX (by kernel_rfl) Try.func33 (by kernel_rfl) (by kernel_rfl) rfl ?_
                                intro X47 hX47 hF47
                                cbv
                                obtain ⟨x313, h2, h1⟩ := bindS h1
                                replace h2 := condT h2 rfl
                                cases h2
                                try dsimp only at h1
                                obtain ⟨⟨l268, n108⟩, hv, h1⟩ := bindS h1
                                try dsimp only at h1
                                refine call_is hO hX47 (fn_rectangle_Union hO hv) (by kernel_rfl) [7, 23] rfl ⟨rfl, rfl, rfl, rfl, trivial⟩ rfl ?_
                                cbv
                                refine hF47 _ _ ?_
                                cbv
                                obtain ⟨x315, h2, h1⟩ := bindS h1
                                replace h2 := condT h2 rfl
                                cases h2
                                try dsimp only at h1
                                obtain ⟨b130, hv, h1⟩ := bindS h1
                                refine call_is hO hX (fn_rectangle_Equal hO hv) (by kernel_rfl) [21, 25] rfl ⟨rfl, rfl, rfl, rfl, trivial⟩ rfl ?_
                                cbv
                                rcases condS h1 with ⟨hc36, h1⟩ | ⟨hc36, h1⟩
                                · as_aux_lemma =>
                                  rw [hc36]
                                  cbv
                                  refine call_inline tab_holds eqs_holds mixed [] hO hX (by kernel_rfl) Try.func33 (by kernel_rfl) (by kernel_rfl) rfl ?_
                                  intro X48 hX48 hF48
                                  cbv
                                  obtain ⟨⟨l269, n109⟩, hv, h1⟩ := bindS h1
                                  try dsimp only at h1
                                  refine call_is hO hX48 (fn_rectangle_Union hO hv) (by kernel_rfl) [1, 2] rfl ⟨rfl, rfl, rfl, rfl, trivial⟩ rfl ?_
                                  cbv
                                  refine hF48 _ _ ?_
                                  cbv
                                  refine call_inline tab_holds eqs_holds mixed [] hO hX (by kernel_rfl) Try.func33 (by kernel_rfl) (by kernel_rfl) rfl ?_
                                  intro X49 hX49 hF49
                                  cbv
                                  obtain ⟨x317, h2, h1⟩ := bindS h1
                                  replace h2 := condT h2 rfl
                                  cases h2
                                  try dsimp only at h1
                                  obtain ⟨⟨l270, n110⟩, hv, h1⟩ := bindS h1
                                  try dsimp only at h1
                                  refine call_is hO hX49 (fn_rectangle_Minus hO hv) (by kernel_rfl) [0, 27] rfl ⟨rfl, rfl, rfl, rfl, trivial⟩ rfl ?_
                                  cbv
                                  refine hF49 _ _ ?_
                                  cbv
                                  refine call_inline tab_holds eqs_holds mixed [] hO hX (by kernel_rfl) Try.func33 (by kernel_rfl) (by kernel_rfl) rfl ?_
                                  intro X50 hX50 hF50
                                  cbv
                                  obtain ⟨x319, h2, h1⟩ := bindS h1
                                  replace h2 := condT h2 rfl
                                  cases h2
                                  try dsimp only at h1
                                  obtain ⟨⟨l271, n111⟩, hv, h1⟩ := bindS h1
                                  try dsimp only at h1
                                  refine call_is hO hX50 (fn_rectangle_Minus hO hv) (by kernel_rfl) [5, 2] rfl ⟨rfl, rfl, rfl, rfl, trivial⟩ rfl ?_
                                  cbv
                                  refine hF50 _ _ ?_
                                  cbv
                                  obtain ⟨x321, h2, h1⟩ := bindS h1
                                  replace h2 := condT h2 rfl
                                  cases h2
                                  try dsimp only at h1
                                  obtain ⟨b131, hv, h1⟩ := bindS h1
                                  refine call_is hO hX (fn_rectangle_Equal hO hv) (by kernel_rfl) [29, 31] rfl ⟨rfl, rfl, rfl, rfl, trivial⟩ rfl ?_
                                  cbv
                                  rcases condS h1 with ⟨hc37, h1⟩ | ⟨hc37, h1⟩
                                  · rw [hc37]
                                    cbv
                                    refine call_inline tab_holds eqs_holds mixed [] hO hX (by kernel_rfl) Try.func33 (by kernel_rfl) (by kernel_rfl) rfl ?_
                                    intro X51 hX51 hF51
                                    cbv
                                    obtain ⟨⟨l272, n112⟩, hv, h1⟩ := bindS h1
                                    try dsimp only at h1
                                    refine call_is hO hX51 (fn_rectangle_Meet hO hv) (by kernel_rfl) [5, 1] rfl ⟨rfl, rfl, rfl, rfl, trivial⟩ rfl ?_
                                    cbv
                                    refine hF51 _ _ ?_
                                    cbv
                                    obtain ⟨x323, h2, h1⟩ := bindS h1
                                    replace h2 := condT h2 rfl
                                    cases h2
                                    try dsimp only at h1
                                    cases h1
                                    try dsimp only at h0
                                    obtain ⟨x332, h1, h0⟩ := bindS h0
                                    rcases condS h1 with ⟨hc38, h1⟩ | ⟨hc38, h1⟩
                                    · rw [hc38]
                                      cbv
                                      cases h1
                                      try dsimp only at h0
                                      cases h0
                                      exact fin_ok hX rfl ⟨[], _, _, ⟨rfl, rfl⟩, rfl, rfl, rfl, rfl, by cbv; try simp⟩
                                    · rw [hc38]
                                      cbv
                                      cases h1
                                      try dsimp only at h0
                                      cases h0
                                      exact fin_ok hX rfl ⟨[], _, _, ⟨rfl, rfl⟩, rfl, rfl, rfl, rfl, by cbv; try simp⟩
                                  · rw [hc37]
                                    cbv
                                    cases h1
                                    try dsimp only at h0
                                    obtain ⟨x332, h1, h0⟩ := bindS h0
                                    replace h1 := condF h1 rfl
                                    cases h1
                                    try dsimp only at h0
                                    cases h0
                                    exact fin_ok hX rfl ⟨[], _, _, ⟨rfl, rfl⟩, rfl, rfl, rfl, rfl, by cbv; try simp⟩
                                · rw [hc36]
                                  cbv
                                  cases h1
                                  try dsimp only at h0
                                  obtain ⟨x332, h1, h0⟩ := bindS h0
                                  replace h1 := condF h1 rfl
                                  cases h1
                                  try dsimp only at h0
                                  cases h0
                                  exact fin_ok hX rfl ⟨[], _, _, ⟨rfl, rfl⟩, rfl, rfl, rfl, rfl, by cbv; try simp⟩
                              · rw [hc35]
                                cbv
                                cases h1
                                try dsimp only at h0
                                obtain ⟨x332, h1, h0⟩ := bindS h0
                                replace h1 := condF h1 rfl
                                cases h1
                                try dsimp only at h0
                                cases h0
                                exact fin_ok hX rfl ⟨[], _, _, ⟨rfl, rfl⟩, rfl, rfl, rfl, rfl, by cbv; try simp⟩
                            · rw [hc34]
                              cbv
                              cases h1
                              try dsimp only at h0
                              obtain ⟨x332, h1, h0⟩ := bindS h0
                              replace h1 := condF h1 rfl
                              cases h1
                              try dsimp only at h0
                              cases h0
                              exact fin_ok hX rfl ⟨[], _, _, ⟨rfl, rfl⟩, rfl, rfl, rfl, rfl, by cbv; try simp⟩
                          · as_aux_lemma =>
                            rw [hc33]
                            cbv
                            refine hF41 _ _ ?_
                            cbv
                            refine call_inline tab_holds eqs_holds mixed [] hO hX (by kernel_rfl) Try.func33 (by kernel_rfl) (by kernel_rfl) rfl ?_
                            intro X52 hX52 hF52
                            cbv
                            cases h2
                            try dsimp only at h1
                            obtain ⟨⟨l263, n103⟩, hv, h1⟩ := bindS h1
                            try dsimp only at h1
                            refine call_is hO hX52 (fn_rectangle_Union hO hv) (by kernel_rfl) [1, 0] rfl ⟨rfl, rfl, rfl, rfl, trivial⟩ rfl ?_
                            cbv
                            obtain ⟨x305, h2, h1⟩ := bindS h1
                            rcases condS h2 with ⟨hc39, h2⟩ | ⟨hc39, h2⟩
                            · as_aux_lemma =>
                              rw [hc39]
                              cbv
                              refine hF52 _ _ ?_
                              cbv
                              cases h2
                              try dsimp only at h1
                              obtain ⟨b128, hv, h1⟩ := bindS h1
                              refine call_is hO hX (fn_rectangle_Equal hO hv) (by kernel_rfl) [13, 15] rfl ⟨rfl, rfl, rfl, rfl, trivial⟩ rfl ?_
                              cbv
                              rcases condS h1 with ⟨hc40, h1⟩ | ⟨hc40, h1⟩
                              · as_aux_lemma =>
                                rw [hc40]
                                cbv
                                refine call_inline tab_holds eqs_holds mixed [] hO hX (by kernel_rfl) Try.func33 (by kernel_rfl) (by kernel_rfl) rfl ?_
                                intro X53 hX53 hF53
                                cbv
                                obtain ⟨⟨l264, n104⟩, hv, h1⟩ := bindS h1
                                try dsimp only at h1
                                refine call_is hO hX53 (fn_rectangle_Meet hO hv) (by kernel_rfl) [1, 0] rfl ⟨rfl, rfl, rfl, rfl, trivial⟩ rfl ?_
                                cbv
                                refine hF53 _ _ ?_
                                cbv
                                obtain ⟨x307, h2, h1⟩ := bindS h1
                                replace h2 := condT h2 rfl
                                cases h2
                                try dsimp only at h1
                                obtain ⟨b129, hv, h1⟩ := bindS h1
                                refine call_is hO hX (fn_rectangle_Equal hO hv) (by kernel_rfl) [7, 17] rfl ⟨rfl, rfl, rfl, rfl, trivial⟩ rfl ?_
                                cbv
                                rcases condS h1 with ⟨hc41, h1⟩ | ⟨hc41, h1⟩
                                · as_aux_lemma =>
                                  rw [hc41]
                                  cbv
                                  refine call_inline tab_holds eqs_holds mixed [] hO hX (by kernel_rfl) Try.func33 (by kernel_rfl) (by kernel_rfl) rfl ?_
                                  intro X54 hX54 hF54
                                  cbv
                                  obtain ⟨⟨l265, n105⟩, hv, h1⟩ := bindS h1
                                  try dsimp only at h1
                                  refine call_is hO hX54 (fn_rectangle_Union hO hv) (by kernel_rfl) [1, 2] rfl ⟨rfl, rfl, rfl, rfl, trivial⟩ rfl ?_
                                  cbv
                                  refine hF54 _ _ ?_
                                  cbv
                                  refine call_inline tab_holds eqs_holds mixed [] hO hX (by kernel_rfl) Try.func33 (by kernel_rfl) (by kernel_rfl) rfl ?_
                                  intro X55 hX55 hF55
                                  cbv
                                  obtain ⟨x309, h2, h1⟩ := bindS h1
                                  replace h2 := condT h2 rfl
                                  cases h2
                                  try dsimp only at h1
                                  obtain ⟨⟨l266, n106⟩, hv, h1⟩ := bindS h1
                                  try dsimp only at h1
                                  refine call_is hO hX55 (fn_rectangle_Meet hO hv) (by kernel_rfl) [0, 19] rfl ⟨rfl, rfl, rfl, rfl, trivial⟩ rfl ?_
                                  cbv
                                  refine hF55 _ _ ?_
                                  cbv
                                  refine call_inline tab_holds eqs_holds mixed [] hO hX (by kernel_rfl) Try.func33 (by kernel_rfl) (by kernel_rfl) rfl ?_
                                  intro X56 hX56 hF56
                                  cbv
                                  obtain ⟨x311, h2, h1⟩ := bindS h1
                                  replace h2 := condT h2 rfl
                                  cases h2
                                  try dsimp only at h1
                                  obtain ⟨⟨l267, n107⟩, hv, h1⟩ := bindS h1
                                  try dsimp only at h1
                                  refine call_is hO hX56 (fn_rectangle_Meet hO hv) (by kernel_rfl) [0, 2] rfl ⟨rfl, rfl, rfl, rfl, trivial⟩ rfl ?_
                                  cbv
                                  refine hF56 _ _ ?_
                                  cbv
                                  refine call_inline tab_holds eqs_holds mixed [] hO hX (by kernel_rfl) Try.func33 (by kernel_rfl) (by kernel_rfl) rfl ?_
                                  intro X57 hX57 hF57
                                  cbv
                                  obtain ⟨x313, h2, h1⟩ := bindS h1
                                  replace h2 := condT h2 rfl
                                  cases h2
                                  try dsimp only at h1
                                  obtain ⟨⟨l268, n108⟩, hv, h1⟩ := bindS h1
                                  try dsimp only at h1
                                  refine call_is hO hX57 (fn_rectangle_Union hO hv) (by kernel_rfl) [7, 23] rfl ⟨rfl, rfl, rfl, rfl, trivial⟩ rfl ?_
                                  cbv
                                  refine hF57 _ _ ?_
                                  cbv
                                  obtain ⟨x315, h2, h1⟩ := bindS h1
                                  replace h2 := condT h2 rfl
                                  cases h2
                                  try dsimp only at h1
                                  obtain ⟨b130, hv, h1⟩ := bindS h1
                                  refine call_is hO hX (fn_rectangle_Equal hO hv) (by kernel_rfl) [21, 25] rfl ⟨rfl, rfl, rfl, rfl, trivial⟩ rfl ?_
                                  cbv
                                  rcases condS h1 with ⟨hc42, h1⟩ | ⟨hc42, h1⟩
                                  · as_aux_lemma =>
                                    rw [hc42]
                                    cbv
                                    refine call_inline tab_holds eqs_holds mixed [] hO hX (by kernel_rfl) Try.func33 (by kernel_rfl) (by kernel_rfl) rfl ?_
                                    intro X58 hX58 hF58
                                    cbv
                                    obtain ⟨⟨l269, n109⟩, hv, h1⟩ := bindS h1
                                    try dsimp only at h1
                                    refine call_is hO hX58 (fn_rectangle_Union hO hv) (by kernel_rfl) [1, 2] rfl ⟨rfl, rfl, rfl, rfl, trivial⟩ rfl ?_
                                    cbv
                                    refine hF58 _ _ ?_
                                    cbv
                                    refine call_inline tab_holds eqs_holds mixed [] hO hX (by kernel_rfl) Try.func33 (by kernel_rfl) (by kernel_rfl) rfl ?_
                                    intro X59 hX59 hF59
                                    cbv
                                    obtain ⟨x317, h2, h1⟩ := bindS h1
                                    replace h2 := condT h2 rfl
                                    cases h2
                                    try dsimp only at h1
                                    obtain ⟨⟨l270, n110⟩, hv, h1⟩ := bindS h1
                                    try dsimp only at h1
                                    refine call_is hO hX59 (fn_rectangle_Minus hO hv) (by kernel_rfl) [0, 27] rfl ⟨rfl, rfl, rfl, rfl, trivial⟩ rfl ?_
                                    cbv
                                    refine hF59 _ _ ?_
                                    cbv
                                    refine call_inline tab_holds eqs_holds mixed [] hO hX (by kernel_rfl) Try.func33 (by kernel_rfl) (by kernel_rfl) rfl ?_
                                    intro X60 hX60 hF60
                                    cbv
                                    obtain ⟨x319, h2, h1⟩ := bindS h1
                                    replace h2 := condT h2 rfl
                                    cases h2
                                    try dsimp only at h1
                                    obtain ⟨⟨l271, n111⟩, hv, h1⟩ := bindS h1
                                    try dsimp only at h1
                                    refine call_is hO hX60 (fn_rectangle_Minus hO hv) (by kernel_rfl) [5, 2] rfl ⟨rfl, rfl, rfl, rfl, trivial⟩ rfl ?_
                                    cbv
                                    refine hF60 _ _ ?_
                                    cbv
                                    obtain ⟨x321, h2, h1⟩ := bindS h1
                                    replace h2 := condT h2 rfl
                                    cases h2
                                    try dsimp only at h1
                                    obtain ⟨b131, hv, h1⟩ := bindS h1
                                    refine call_is hO hX (fn_rectangle_Equal hO hv) (by kernel_rfl) [29, 31] rfl ⟨rfl, rfl, rfl, rfl, trivial⟩ rfl ?_
                                    cbv
                                    rcases condS h1 with ⟨hc43, h1⟩ | ⟨hc43, h1⟩
                                    · rw [hc43]
                                      cbv
                                      refine call_inline tab_holds eqs_holds mixed [] hO hX (by kernel_rfl) Try.func33 (by kernel_rfl) (by kernel_rfl) rfl ?_
                                      intro X61 hX61 hF61
                                      cbv
                                      obtain ⟨⟨l272, n112⟩, hv, h1⟩ := bindS h1
                                      try dsimp only at h1
                                      refine call_is hO hX61 (fn_rectangle_Meet hO hv) (by kernel_rfl) [5, 1] rfl ⟨rfl, rfl, rfl, rfl, trivial⟩ rfl ?_
                                      cbv
                                      refine hF61 _ _ ?_
                                      cbv
                                      obtain ⟨x323, h2, h1⟩ := bindS h1
                                      replace h2 := condT h2 rfl
                                      cases h2
                                      try dsimp only at h1
                                      cases h1
                                      try dsimp only at h0
                                      obtain ⟨x332, h1, h0⟩ := bindS h0
                                      rcases condS h1 with ⟨hc44, h1⟩ | ⟨hc44, h1⟩
                                      · rw [hc44]
                                        cbv
                                        cases h1
                                        try dsimp only at h0
                                        cases h0
                                        exact fin_ok hX rfl ⟨[], _, _, ⟨rfl, rfl⟩, rfl, rfl, rfl, rfl, by cbv; try simp⟩
                                      · rw [hc44]
                                        cbv
                                        cases h1
                                        try dsimp only at h0
                                        cases h0
                                        exact fin_ok hX rfl ⟨[], _, _, ⟨rfl, rfl⟩, rfl, rfl, rfl, rfl, by cbv; try simp⟩
                                    · rw [hc43]
                                      cbv
                                      cases h1
                                      try dsimp only at h0
                                      obtain ⟨x332, h1, h0⟩ := bindS h0
                                      replace h1 := condF h1 rfl
                                      cases h1
                                      try dsimp only at h0
                                      cases h0
                                      exact fin_ok hX rfl ⟨[], _, _, ⟨rfl, rfl⟩, rfl, rfl, rfl, rfl, by cbv; try simp⟩
                                  · rw [hc42]
                                    cbv
                                    cases h1
                                    try dsimp only at h0
                                    obtain ⟨x332, h1, h0⟩ := bindS h0
                                    replace h1 := condF h1 rfl
                                    cases h1
                                    try dsimp only at h0
                                    cases h0
                                    exact fin_ok hX rfl ⟨[], _, _, ⟨rfl, rfl⟩, rfl, rfl, rfl, rfl, by cbv; try simp⟩
                                · rw [hc41]
                                  cbv
                                  cases h1
                                  try dsimp only at h0
                                  obtain ⟨x332, h1, h0⟩ := bindS h0
                                  replace h1 := condF h1 rfl
                                  cases h1
                                  try dsimp only at h0
                                  cases h0
                                  exact fin_ok hX rfl ⟨[], _, _, ⟨rfl, rfl⟩, rfl, rfl, rfl, rfl, by cbv; try simp⟩
                              · rw [hc40]
                                cbv
                                cases h1
                                try dsimp only at h0
                                obtain ⟨x332, h1, h0⟩ := bindS h0
                                replace h1 := condF h1 rfl
                                cases h1
                                try dsimp only at h0
                                cases h0
                                exact fin_ok hX rfl ⟨[], _, _, ⟨rfl, rfl⟩, rfl, rfl, rfl, rfl, by cbv; try simp⟩
                            · as_aux_lemma =>
                              rw [hc39]
                              cbv
                              refine hF52 _ _ ?_
                              cbv
                              cases h2
                              try dsimp only at h1
                              obtain ⟨b128, hv, h1⟩ := bindS h1
                              refine call_is hO hX (fn_rectangle_Equal hO hv) (by kernel_rfl) [13, 15] rfl ⟨rfl, rfl, rfl, rfl, trivial⟩ rfl ?_
                              cbv
                              rcases condS h1 with ⟨hc45, h1⟩ | ⟨hc45, h1⟩
                              · as_aux_lemma =>
                                rw [hc45]
                                cbv
                                refine call_inline tab_holds eqs_holds mixed [] hO hX (by kernel_rfl) Try.func33 (by kernel_rfl) (by kernel_rfl) rfl ?_
                                intro X62 hX62 hF62
                                cbv
                                obtain ⟨⟨l264, n104⟩, hv, h1⟩ := bindS h1
                                try dsimp only at h1
                                refine call_is hO hX62 (fn_rectangle_Meet hO hv) (by kernel_rfl) [1, 0] rfl ⟨rfl, rfl, rfl, rfl, trivial⟩ rfl ?_
                                cbv
                                obtain ⟨x307, h2, h1⟩ := bindS h1
                                rcases condS h2 with ⟨hc46, h2⟩ | ⟨hc46, h2⟩
                                · as_aux_lemma =>
                                  rw [hc46]
                                  cbv
                                  refine hF62 _ _ ?_
                                  cbv
                                  cases h2
                                  try dsimp only at h1
                                  obtain ⟨b129, hv, h1⟩ := bindS h1
                                  refine call_is hO hX (fn_rectangle_Equal hO hv) (by kernel_rfl) [7, 17] rfl ⟨rfl, rfl, rfl, rfl, trivial⟩ rfl ?_
                                  cbv
                                  rcases condS h1 with ⟨hc47, h1⟩ | ⟨hc47, h1⟩
                                  · as_aux_lemma =>
                                    rw [hc47]
                                    cbv
                                    refine call_inline tab_holds eqs_holds mixed [] hO hX (by kernel_rfl) Try.func33 (by kernel_rfl) (by kernel_rfl) rfl ?_
                                    intro X63 hX63 hF63
                                    cbv
                                    obtain ⟨⟨l265, n105⟩, hv, h1⟩ := bindS h1
                                    try dsimp only at h1
                                    refine call_is hO hX63 (fn_rectangle_Union hO hv) (by kernel_rfl) [1, 2] rfl ⟨rfl, rfl, rfl, rfl, trivial⟩ rfl ?_
                                    cbv
                                    refine hF63 _ _ ?_
                                    cbv
                                    refine call_inline tab_holds eqs_holds mixed [] hO hX (by kernel_rfl) Try.func33 (by kernel_rfl) (by kernel_rfl) rfl ?_
                                    intro X64 hX64 hF64
                                    cbv
                                    obtain ⟨x309, h2, h1⟩ := bindS h1
                                    replace h2 := condT h2 rfl
                                    cases h2
                                    try dsimp only at h1
                                    obtain ⟨⟨l266, n106⟩, hv, h1⟩ := bindS h1
                                    try dsimp only at h1
                                    refine call_is hO hX64 (fn_rectangle_Meet hO hv) (by kernel_rfl) [0, 19] rfl ⟨rfl, rfl, rfl, rfl, trivial⟩ rfl ?_
                                    cbv
                                    refine hF64 _ _ ?_
                                    cbv
                                    refine call_inline tab_holds eqs_holds mixed [] hO hX (by kernel_rfl) Try.func33 (by kernel_rfl) (by kernel_rfl) rfl ?_
                                    intro X65 hX65 hF65
                                    cbv
                                    obtain ⟨x311, h2, h1⟩ := bindS h1
                                    replace h2 := condT h2 rfl
                                    cases h2
                                    try dsimp only at h1
                                    obtain ⟨⟨l267, n107⟩, hv, h1⟩ := bindS h1
                                    try dsimp only at h1
                                    refine call_is hO hX65 (fn_rectangle_Meet hO hv) (by kernel_rfl) [0, 2] rfl ⟨rfl, rfl, rfl, rfl, trivial⟩ rfl ?_
                                    cbv
                                    refine hF65 _ _ ?_
                                    cbv
                                    refine call_inline tab_holds eqs_holds mixed [] hO hX (by kernel_rfl) Try.func33 (by kernel_rfl) (by kernel_rfl) rfl ?_
                                    intro X66 hX66 hF66
                                    cbv
                                    obtain ⟨x313, h2, h1⟩ := bindS h1
                                    replace h2 := condT h2 rfl
                                    cases h2
                                    try dsimp only at h1
                                    obtain ⟨⟨l268, n108⟩, hv, h1⟩ := bindS h1
                                    try dsimp only at h1
                                    refine call_is hO hX66 (fn_rectangle_Union hO hv) (by kernel_rfl) [7, 23] rfl ⟨rfl, rfl, rfl, rfl, trivial⟩ rfl ?_
                                    cbv
                                    refine hF66 _ _ ?_
                                    cbv
                                    obtain ⟨x315, h2, h1⟩ := bindS h1
                                    replace h2 := condT h2 rfl
                                    cases h2
                                    try dsimp only at h1
                                    obtain ⟨b130, hv, h1⟩ := bindS h1
                                    refine call_is hO hX (fn_rectangle_Equal hO hv) (by kernel_rfl) [21, 25] rfl ⟨rfl, rfl, rfl, rfl, trivial⟩ rfl ?_
                                    cbv
                                    rcases condS h1 with ⟨hc48, h1⟩ | ⟨hc48, h1⟩
                                    · as_aux_lemma =>
                                      rw [hc48]
                                      cbv
                                      refine call_inline tab_holds eqs_holds mixed [] hO hX (by kernel_rfl) Try.func33 (by kernel_rfl) (by kernel_rfl) rfl ?_
                                      intro X67 hX67 hF67
                                      cbv
                                      obtain ⟨⟨l269, n109⟩, hv, h1⟩ := bindS h1
                                      try dsimp only at h1
                                      refine call_is hO hX67 (fn_rectangle_Union hO hv) (by kernel_rfl) [1, 2] rfl ⟨rfl, rfl, rfl, rfl, trivial⟩ rfl ?_
                                      cbv
                                      refine hF67 _ _ ?_
                                      cbv
                                      refine call_inline tab_holds eqs_holds mixed [] hO hX (by kernel_rfl) Try.func33 (by kernel_rfl) (by kernel_rfl) rfl ?_
                                      intro X68 hX68 hF68
                                      cbv
                                      obtain ⟨x317, h2, h1⟩ := bindS h1
                                      replace h2 := condT h2 rfl
                                      cases h2
                                      try dsimp only at h1
                                      obtain ⟨⟨l270, n110⟩, hv, h1⟩ := bindS h1
                                      try dsimp only at h1
                                      refine call_is hO hX68 (fn_rectangle_Minus hO hv) (by kernel_rfl) [0, 27] rfl ⟨rfl, rfl, rfl, rfl, trivial⟩ rfl ?_
                                      cbv
                                      refine hF68 _ _ ?_
                                      cbv
                                      refine call_inline tab_holds eqs_holds mixed [] hO hX (by kernel_rfl) Try.func33 (by kernel_rfl) (by kernel_rfl) rfl ?_
                                      intro X69 hX69 hF69
                                      cbv
                                      obtain ⟨x319, h2, h1⟩ := bindS h1
                                      replace h2 := condT h2 rfl
                                      cases h2
                                      try dsimp only at h1
                                      obtain ⟨⟨l271, n111⟩, hv, h1⟩ := bindS h1
                                      try dsimp only at h1
                                      refine call_is hO hX69 (fn_rectangle_Minus hO hv) (by kernel_rfl) [5, 2] rfl ⟨rfl, rfl, rfl, rfl, trivial⟩ rfl ?_
                                      cbv
                                      refine hF69 _ _ ?_
                                      cbv
                                      obtain ⟨x321, h2, h1⟩ := bindS h1
                                      replace h2 := condT h2 rfl
                                      cases h2
                                      try dsimp only at h1
                                      obtain ⟨b131, hv, h1⟩ := bindS h1
                                      refine call_is hO hX (fn_rectangle_Equal hO hv) (by kernel_rfl) [29, 31] rfl ⟨rfl, rfl, rfl, rfl, trivial⟩ rfl ?_
                                      cbv
                                      rcases condS h1 with ⟨hc49, h1⟩ | ⟨hc49, h1⟩
                                      · rw [hc49]
                                        cbv
                                        refine call_inline tab_holds eqs_holds mixed [] hO hX (by kernel_rfl) Try.func33 (by kernel_rfl) (by kernel_rfl) rfl ?_
                                        intro X70 hX70 hF70
                                        cbv
                                        obtain ⟨⟨l272, n112⟩, hv, h1⟩ := bindS h1
                                        try dsimp only at h1
                                        refine call_is hO hX70 (fn_rectangle_Meet hO hv) (by kernel_rfl) [5, 1] rfl ⟨rfl, rfl, rfl, rfl, trivial⟩ rfl ?_
                                        cbv
                                        refine hF70 _ _ ?_
                                        cbv
                                        obtain ⟨x323, h2, h1⟩ := bindS h1
                                        replace h2 := condT h2 rfl
                                        cases h2
                                        try dsimp only at h1
                                        cases h1
                                        try dsimp only at h0
                                        obtain ⟨x332, h1, h0⟩ := bindS h0
                                        rcases condS h1 with ⟨hc50, h1⟩ | ⟨hc50, h1⟩
                                        · rw [hc50]
                                          cbv
                                          cases h1
                                          try dsimp only at h0
                                          cases h0
                                          exact fin_ok hX rfl ⟨[], _, _, ⟨rfl, rfl⟩, rfl, rfl, rfl, rfl, by cbv; try simp⟩
                                        · rw [hc50]
                                          cbv
                                          cases h1
                                          try dsimp only at h0
                                          cases h0
                                          exact fin_ok hX rfl ⟨[], _, _, ⟨rfl, rfl⟩, rfl, rfl, rfl, rfl, by cbv; try simp⟩
                                      · rw [hc49]
                                        cbv
                                        cases h1
                                        try dsimp only at h0
                                        obtain ⟨x332, h1, h0⟩ := bindS h0
                                        replace h1 := condF h1 rfl
                                        cases h1
                                        try dsimp only at h0
                                        cases h0
                                        exact fin_ok hX rfl ⟨[], _, _, ⟨rfl, rfl⟩, rfl, rfl, rfl, rfl, by cbv; try simp⟩
                                    · rw [hc48]
                                      cbv
                                      cases h1
                                      try dsimp only at h0
                                      obtain ⟨x332, h1, h0⟩ := bindS h0
                                      replace h1 := condF h1 rfl
                                      cases h1
                                      try dsimp only at h0
                                      cases h0
                                      exact fin_ok hX rfl ⟨[], _, _, ⟨rfl, rfl⟩, rfl, rfl, rfl, rfl, by cbv; try simp⟩
                                  · rw [hc47]
                                    cbv
                                    cases h1
                                    try dsimp only at h0
                                    obtain ⟨x332, h1, h0⟩ := bindS h0
                                    replace h1 := condF h1 rfl
                                    cases h1
                                    try dsimp only at h0
                                    cases h0
                                    exact fin_ok hX rfl ⟨[], _, _, ⟨rfl, rfl⟩, rfl, rfl, rfl, rfl, by cbv; try simp⟩
                                · as_aux_lemma =>
                                  rw [hc46]
                                  cbv
                                  refine hF62 _ _ ?_
                                  cbv
                                  cases h2
                                  try dsimp only at h1
                                  obtain ⟨b129, hv, h1⟩ := bindS h1
                                  refine call_is hO hX (fn_rectangle_Equal hO hv) (by kernel_rfl) [7, 17] rfl ⟨rfl, rfl, rfl, rfl, trivial⟩ rfl ?_
                                  cbv
                                  rcases condS h1 with ⟨hc51, h1⟩ | ⟨hc51, h1⟩
                                  · as_aux_lemma =>
                                    rw [hc51]
                                    cbv
                                    refine call_inline tab_holds eqs_holds mixed [] hO hX (by kernel_rfl) Try.func33 (by kernel_rfl) (by kernel_rfl) rfl ?_
                                    intro X71 hX71 hF71
                                    cbv
                                    obtain ⟨⟨l265, n105⟩, hv, h1⟩ := bindS h1
                                    try dsimp only at h1
                                    refine call_is hO hX71 (fn_rectangle_Union hO hv) (by kernel_rfl) [1, 2] rfl ⟨rfl, rfl, rfl, rfl, trivial⟩ rfl ?_
                                    cbv
                                    obtain ⟨x309, h2, h1⟩ := bindS h1
                                    rcases condS h2 with ⟨hc52, h2⟩ | ⟨hc52, h2⟩
                                    · as_aux_lemma =>
                                      rw [hc52]
                                      cbv
                                      refine hF71 _ _ ?_
                                      cbv
                                      refine call_inline tab_holds eqs_holds mixed [] hO hX (by kernel_rfl) Try.func33 (by kernel_rfl) (by kernel_rfl) rfl ?_
                                      intro X72 hX72 hF72
                                      cbv
                                      cases h2
                                      try dsimp only at h1
                                      obtain ⟨⟨l266, n106⟩, hv, h1⟩ := bindS h1
                                      try dsimp only at h1
                                      refine call_is hO hX72 (fn_rectangle_Meet hO hv) (by kernel_rfl) [0, 19] rfl ⟨rfl, rfl, rfl, rfl, trivial⟩ rfl ?_
                                      cbv
                                      refine hF72 _ _ ?_
                                      cbv
                                      refine call_inline tab_holds eqs_holds mixed [] hO hX (by kernel_rfl) Try.func33 (by kernel_rfl) (by kernel_rfl) rfl ?_
                                      intro X73 hX73 hF73
                                      cbv
                                      obtain ⟨x311, h2, h1⟩ := bindS h1
                                      replace h2 := condT h2 rfl
                                      cases h2
                                      try dsimp only at h1
                                      obtain ⟨⟨l267, n107⟩, hv, h1⟩ := bindS h1
                                      try dsimp only at h1
                                      refine call_is hO hX73 (fn_rectangle_Meet hO hv) (by kernel_rfl) [0, 2] rfl ⟨rfl, rfl, rfl, rfl, trivial⟩ rfl ?_
                                      cbv
                                      refine hF73 _ _ ?_
                                      cbv
                                      refine call_inline tab_holds eqs_holds mixed [] hO hX (by kernel_rfl) Try.func33 (by kernel_rfl) (by kernel_rfl) rfl ?_
                                      intro X74 hX74 hF74
                                      cbv
                                      obtain ⟨x313, h2, h1⟩ := bindS h1
                                      replace h2 := condT h2 rfl
                                      cases h2
                                      try dsimp only at h1
                                      obtain ⟨⟨l268, n108⟩, hv, h1⟩ := bindS h1
                                      try dsimp only at h1
                                      refine call_is hO hX74 (fn_rectangle_Union hO hv) (by kernel_rfl) [7, 23] rfl ⟨rfl, rfl, rfl, rfl, trivial⟩ rfl ?_
                                      cbv
                                      refine hF74 _ _ ?_
                                      cbv
                                      obtain ⟨x315, h2, h1⟩ := bindS h1
                                      replace h2 := condT h2 rfl
                                      cases h2
                                      try dsimp only at h1
                                      obtain ⟨b130, hv, h1⟩ := bindS h1
                                      refine call_is hO hX (fn_rectangle_Equal hO hv) (by kernel_rfl) [21, 25] rfl ⟨rfl, rfl, rfl, rfl, trivial⟩ rfl ?_
                                      cbv
                                      rcases condS h1 with ⟨hc53, h1⟩ | ⟨hc53, h1⟩
                                      · as_aux_lemma =>
                                        rw [hc53]
                                        cbv
                                        refine call_inline tab_holds eqs_holds mixed [] hO hX (by kernel_rfl) Try.func33 (by kernel_rfl) (by kernel_rfl) rfl ?_
                                        intro X75 hX75 hF75
                                        cbv
                                        obtain ⟨⟨l269, n109⟩, hv, h1⟩ := bindS h1
                                        try dsimp only at h1
                                        refine call_is hO hX75 (fn_rectangle_Union hO hv) (by kernel_rfl) [1, 2] rfl ⟨rfl, rfl, rfl, rfl, trivial⟩ rfl ?_
                                        cbv
                                        refine hF75 _ _ ?_
                                        cbv
                                        refine call_inline tab_holds eqs_holds mixed [] hO hX (by kernel_rfl) Try.func33 (by kernel_rfl) (by kernel_rfl) rfl ?_
                                        intro X76 hX76 hF76
                                        cbv
                                        obtain ⟨x317, h2, h1⟩ := bindS h1
                                        replace h2 := condT h2 rfl
                                        cases h2
                                        try dsimp only at h1
                                        obtain ⟨⟨l270, n110⟩, hv, h1⟩ := bindS h1
                                        try dsimp only at h1
                                        refine call_is hO hX76 (fn_rectangle_Minus hO hv) (by kernel_rfl) [0, 27] rfl ⟨rfl, rfl, rfl, rfl, trivial⟩ rfl ?_
                                        cbv
                                        refine hF76 _ _ ?_
                                        cbv
                                        refine call_inline tab_holds eqs_holds mixed [] hO hX (by kernel_rfl) Try.func33 (by kernel_rfl) (by kernel_rfl) rfl ?_
                                        intro X77 hX77 hF77
                                        cbv
                                        obtain ⟨x319, h2, h1⟩ := bindS h1
                                        replace h2 := condT h2 rfl
                                        cases h2
                                        try dsimp only at h1
                                        obtain ⟨⟨l271, n111⟩, hv, h1⟩ := bindS h1
                                        try dsimp only at h1
                                        refine call_is hO hX77 (fn_rectangle_Minus hO hv) (by kernel_rfl) [5, 2] rfl ⟨rfl, rfl, rfl, rfl, trivial⟩ rfl ?_
                                        cbv
                                        refine hF77 _ _ ?_
                                        cbv
                                        obtain ⟨x321, h2, h1⟩ := bindS h1
                                        replace h2 := condT h2 rfl
                                        cases h2
                                        try dsimp only at h1
                                        obtain ⟨b131, hv, h1⟩ := bindS h1
                                        refine call_is hO hX (fn_rectangle_Equal hO hv) (by kernel_rfl) [29, 31] rfl ⟨rfl, rfl, rfl, rfl, trivial⟩ rfl ?_
                                        cbv
                                        rcases condS h1 with ⟨hc54, h1⟩ | ⟨hc54, h1⟩
                                        · rw [hc54]
                                          cbv
                                          refine call_inline tab_holds eqs_holds mixed [] hO hX (by kernel_rfl) Try.func33 (by kernel_rfl) (by kernel_rfl) rfl ?_
                                          intro X78 hX78 hF78
                                          cbv
                                          obtain ⟨⟨l272, n112⟩, hv, h1⟩ := bindS h1
                                          try dsimp only at h1
                                          refine call_is hO hX78 (fn_rectangle_Meet hO hv) (by kernel_rfl) [5, 1] rfl ⟨rfl, rfl, rfl, rfl, trivial⟩ rfl ?_
                                          cbv
                                          refine hF78 _ _ ?_
                                          cbv
                                          obtain ⟨x323, h2, h1⟩ := bindS h1
                                          replace h2 := condT h2 rfl
                                          cases h2
                                          try dsimp only at h1
                                          cases h1
                                          try dsimp only at h0
                                          obtain ⟨x332, h1, h0⟩ := bindS h0
                                          rcases condS h1 with ⟨hc55, h1⟩ | ⟨hc55, h1⟩
                                          · rw [hc55]
                                            cbv
                                            cases h1
                                            try dsimp only at h0
                                            cases h0
                                            exact fin_ok hX rfl ⟨[], _, _, ⟨rfl, rfl⟩, rfl, rfl, rfl, rfl, by cbv; try simp⟩
                                          · rw [hc55]
                                            cbv
                                            cases h1
                                            try dsimp only at h0
                                            cases h0
                                            exact fin_ok hX rfl ⟨[], _, _, ⟨rfl, rfl⟩, rfl, rfl, rfl, rfl, by cbv; try simp⟩
                                        · rw [hc54]
                                          cbv
                                          cases h1
                                          try dsimp only at h0
                                          obtain ⟨x332, h1, h0⟩ := bindS h0
                                          replace h1 := condF h1 rfl
                                          cases h1
                                          try dsimp only at h0
                                          cases h0
                                          exact fin_ok hX rfl ⟨[], _, _, ⟨rfl, rfl⟩, rfl, rfl, rfl, rfl, by cbv; try simp⟩
                                      · rw [hc53]
                                        cbv
                                        cases h1
                                        try dsimp only at h0
                                        obtain ⟨x332, h1, h0⟩ := bindS h0
                                        replace h1 := condF h1 rfl
                                        cases h1
                                        try dsimp only at h0
                                        cases h0
                                        exact fin_ok hX rfl ⟨[], _, _, ⟨rfl, rfl⟩, rfl, rfl, rfl, rfl, by cbv; try simp⟩
                                    · as_aux_lemma =>
                                      rw [hc52]
                                      cbv
                                      refine hF71 _ _ ?_
                                      cbv
                                      refine call_inline tab_holds eqs_holds mixed [] hO hX (by kernel_rfl) Try.func33 (by kernel_rfl) (by kernel_rfl) rfl ?_
                                      intro X79 hX79 hF79
                                      cbv
                                      cases h2
                                      try dsimp only at h1
                                      obtain ⟨⟨l266, n106⟩, hv, h1⟩ := bindS h1
                                      try dsimp only at h1
                                      refine call_is hO hX79 (fn_rectangle_Meet hO hv) (by kernel_rfl) [0, 19] rfl ⟨rfl, rfl, rfl, rfl, trivial⟩ rfl ?_
                                      cbv
                                      obtain ⟨x311, h2, h1⟩ := bindS h1
                                      rcases condS h2 with ⟨hc56, h2⟩ | ⟨hc56, h2⟩
                                      · as_aux_lemma =>
                                        rw [hc56]
                                        cbv
                                        refine hF79 _ _ ?_
                                        cbv
                                        refine call_inline tab_holds eqs_holds mixed [] hO hX (by kernel_rfl) Try.func33 (by kernel_rfl) (by kernel_rfl) rfl ?_
                                        intro X80 hX80 hF80
                                        cbv
                                        cases h2
                                        try dsimp only at h1
                                        obtain ⟨⟨l267, n107⟩, hv, h1⟩ := bindS h1
                                        try dsimp only at h1
                                        refine call_is hO hX80 (fn_rectangle_Meet hO hv) (by kernel_rfl) [0, 2] rfl ⟨rfl, rfl, rfl, rfl, trivial⟩ rfl ?_
                                        cbv
                                        refine hF80 _ _ ?_
                                        cbv
                                        refine call_inline tab_holds eqs_holds mixed [] hO hX (by kernel_rfl) Try.func33 (by kernel_rfl) (by kernel_rfl) rfl ?_
                                        intro X81 hX81 hF81
                                        cbv
                                        obtain ⟨x313, h2, h1⟩ := bindS h1
                                        replace h2 := condT h2 rfl
                                        cases h2
                                        try dsimp only at h1
                                        obtain ⟨⟨l268, n108⟩, hv, h1⟩ := bindS h1
                                        try dsimp only at h1
                                        refine call_is hO hX81 (fn_rectangle_Union hO hv) (by kernel_rfl) [7, 23] rfl ⟨rfl, rfl, rfl, rfl, trivial⟩ rfl ?_
                                        cbv
                                        refine hF81 _ _ ?_
                                        cbv
                                        obtain ⟨x315, h2, h1⟩ := bindS h1
                                        replace h2 := condT h2 rfl
                                        cases h2
                                        try dsimp only at h1
                                        obtain ⟨b130, hv, h1⟩ := bindS h1
                                        refine call_is hO hX (fn_rectangle_Equal hO hv) (by kernel_rfl) [21, 25] rfl ⟨rfl, rfl, rfl, rfl, trivial⟩ rfl ?_
                                        cbv
                                        rcases condS h1 with ⟨hc57, h1⟩ | ⟨hc57, h1⟩
                                        · as_aux_lemma =>
                                          rw [hc57]
                                          cbv
                                          refine call_inline tab_holds eqs_holds mixed [] hO hX (by kernel_rfl) Try.func33 (by kernel_rfl) (by kernel_rfl) rfl ?_
                                          intro X82 hX82 hF82
                                          cbv
                                          obtain ⟨⟨l269, n109⟩, hv, h1⟩ := bindS h1
                                          try dsimp only at h1
                                          refine call_is hO hX82 (fn_rectangle_Union hO hv) (by kernel_rfl) [1, 2] rfl ⟨rfl, rfl, rfl, rfl, trivial⟩ rfl ?_
                                          cbv
                                          refine hF82 _ _ ?_
                                          cbv
                                          refine call_inline tab_holds eqs_holds mixed [] hO hX (by kernel_rfl) Try.func33 (by kernel_rfl) (by kernel_rfl) rfl ?_
                                          intro X83 hX83 hF83
                                          cbv
                                          obtain ⟨x317, h2, h1⟩ := bindS h1
                                          replace h2 := condT h2 rfl
                                          cases h2
                                          try dsimp only at h1
                                          obtain ⟨⟨l270, n110⟩, hv, h1⟩ := bindS h1
                                          try dsimp only at h1
                                          refine call_is hO hX83 (fn_rectangle_Minus hO hv) (by kernel_rfl) [0, 27] rfl ⟨rfl, rfl, rfl, rfl, trivial⟩ rfl ?_
                                          cbv
                                          refine hF83 _ _ ?_
                                          cbv
                                          refine call_inline tab_holds eqs_holds mixed [] hO hX (by kernel_rfl) Try.func33 (by kernel_rfl) (by kernel_rfl) rfl ?_
                                          intro X84 hX84 hF84
                                          cbv
                                          obtain ⟨x319, h2, h1⟩ := bindS h1
                                          replace h2 := condT h2 rfl
                                          cases h2
                                          try dsimp only at h1
                                          obtain ⟨⟨l271, n111⟩, hv, h1⟩ := bindS h1
                                          try dsimp only at h1
                                          refine call_is hO hX84 (fn_rectangle_Minus hO hv) (by kernel_rfl) [5, 2] rfl ⟨rfl, rfl, rfl, rfl, trivial⟩ rfl ?_
                                          cbv
                                          refine hF84 _ _ ?_
                                          cbv
                                          obtain ⟨x321, h2, h1⟩ := bindS h1
                                          replace h2 := condT h2 rfl
                                          cases h2
                                          try dsimp only at h1
                                          obtain ⟨b131, hv, h1⟩ := bindS h1
                                          refine call_is hO hX (fn_rectangle_Equal hO hv) (by kernel_rfl) [29, 31] rfl ⟨rfl, rfl, rfl, rfl, trivial⟩ rfl ?_
                                          cbv
                                          rcases condS h1 with ⟨hc58, h1⟩ | ⟨hc58, h1⟩
                                          · rw [hc58]
                                            cbv
                                            refine call_inline tab_holds eqs_holds mixed [] hO hX (by kernel_rfl) Try.func33 (by kernel_rfl) (by kernel_rfl) rfl ?_
                                            intro X85 hX85 hF85
                                            cbv
                                            obtain ⟨⟨l272, n112⟩, hv, h1⟩ := bindS h1
                                            try dsimp only at h1
                                            refine call_is hO hX85 (fn_rectangle_Meet hO hv) (by kernel_rfl) [5, 1] rfl ⟨rfl, rfl, rfl, rfl, trivial⟩ rfl ?_
                                            cbv
                                            refine hF85 _ _ ?_
                                            cbv
                                            obtain ⟨x323, h2, h1⟩ := bindS h1
                                            replace h2 := condT h2 rfl
                                            cases h2
                                            try dsimp only at h1
                                            cases h1
                                            try dsimp only at h0
                                            obtain ⟨x332, h1, h0⟩ := bindS h0
                                            rcases condS h1 with ⟨hc59, h1⟩ | ⟨hc59, h1⟩
                                            · rw [hc59]
                                              cbv
                                              cases h1
                                              try dsimp only at h0
                                              cases h0
                                              exact fin_ok hX rfl ⟨[], _, _, ⟨rfl, rfl⟩, rfl, rfl, rfl, rfl, by cbv; try simp⟩
                                            · rw [hc59]
                                              cbv
                                              cases h1
                                              try dsimp only at h0
                                              cases h0
                                              exact fin_ok hX rfl ⟨[], _, _, ⟨rfl, rfl⟩, rfl, rfl, rfl, rfl, by cbv; try simp⟩
                                          · rw [hc58]
                                            cbv
                                            cases h1
                                            try dsimp only at h0
                                            obtain ⟨x332, h1, h0⟩ := bindS h0
                                            replace h1 := condF h1 rfl
                                            cases h1
                                            try dsimp only at h0
                                            cases h0
                                            exact fin_ok hX rfl ⟨[], _, _, ⟨rfl, rfl⟩, rfl, rfl, rfl, rfl, by cbv; try simp⟩
                                        · rw [hc57]
                                          cbv
                                          cases h1
                                          try dsimp only at h0
                                          obtain ⟨x332, h1, h0⟩ := bindS h0
                                          replace h1 := condF h1 rfl
                                          cases h1
                                          try dsimp only at h0
                                          cases h0
                                          exact fin_ok hX rfl ⟨[], _, _, ⟨rfl, rfl⟩, rfl, rfl, rfl, rfl, by cbv; try simp⟩
                                      · as_aux_lemma =>
                                        rw [hc56]
                                        cbv
                                        refine hF79 _ _ ?_
                                        cbv
                                        refine call_inline tab_holds eqs_holds mixed [] hO hX (by kernel_rfl) Try.func33 (by kernel_rfl) (by kernel_rfl) rfl ?_
                                        intro X86 hX86 hF86
                                        cbv
                                        cases h2
                                        try dsimp only at h1
                                        obtain ⟨⟨l267, n107⟩, hv, h1⟩ := bindS h1
                                        try dsimp only at h1
                                        refine call_is hO hX86 (fn_rectangle_Meet hO hv) (by kernel_rfl) [0, 2] rfl ⟨rfl, rfl, rfl, rfl, trivial⟩ rfl ?_
                                        cbv
                                        obtain ⟨x313, h2, h1⟩ := bindS h1
                                        rcases condS h2 with ⟨hc60, h2⟩ | ⟨hc60, h2⟩
                                        · as_aux_lemma =>
                                          rw [hc60]
                                          cbv
                                          refine hF86 _ _ ?_
                                          cbv
                                          refine call_inline tab_holds eqs_holds mixed [] hO hX (by kernel_rfl) Try.func33 (by kernel_rfl) (by kernel_rfl) rfl ?_
                                          intro X87 hX87 hF87
                                          cbv
                                          cases h2
                                          try dsimp only at h1
                                          obtain ⟨⟨l268, n108⟩, hv, h1⟩ := bindS h1
                                          try dsimp only at h1
                                          refine call_is hO hX87 (fn_rectangle_Union hO hv) (by kernel_rfl) [7, 23] rfl ⟨rfl, rfl, rfl, rfl, trivial⟩ rfl ?_
                                          cbv
                                          refine hF87 _ _ ?_
                                          cbv
                                          obtain ⟨x315, h2, h1⟩ := bindS h1
                                          replace h2 := condT h2 rfl
                                          cases h2
                                          try dsimp only at h1
                                          obtain ⟨b130, hv, h1⟩ := bindS h1
                                          refine call_is hO hX (fn_rectangle_Equal hO hv) (by kernel_rfl) [21, 25] rfl ⟨rfl, rfl, rfl, rfl, trivial⟩ rfl ?_
                                          cbv
                                          rcases condS h1 with ⟨hc61, h1⟩ | ⟨hc61, h1⟩
                                          · as_aux_lemma =>
                                            rw [hc61]
                                            cbv
                                            refine call_inline tab_holds eqs_holds mixed [] hO hX (by kernel_rfl) Try.func33 (by kernel_rfl) (by kernel_rfl) rfl ?_
                                            intro X88 hX88 hF88
                                            cbv
                                            obtain ⟨⟨l269, n109⟩, hv, h1⟩ := bindS h1
                                            try dsimp only at h1
                                            refine call_is hO hX88 (fn_rectangle_Union hO hv) (by kernel_rfl) [1, 2] rfl ⟨rfl, rfl, rfl, rfl, trivial⟩ rfl ?_
                                            cbv
                                            refine hF88 _ _ ?_
                                            cbv
                                            refine call_inline tab_holds eqs_holds mixed [] hO hX (by kernel_rfl) Try.func33 (by kernel_rfl) (by kernel_rfl) rfl ?_
                                            intro X89 hX89 hF89
                                            cbv
                                            obtain ⟨x317, h2, h1⟩ := bindS h1
                                            replace h2 := condT h2 rfl
                                            cases h2
                                            try dsimp only at h1
                                            obtain ⟨⟨l270, n110⟩, hv, h1⟩ := bindS h1
                                            try dsimp only at h1
                                            refine call_is hO hX89 (fn_rectangle_Minus hO hv) (by kernel_rfl) [0, 27] rfl ⟨rfl, rfl, rfl, rfl, trivial⟩ rfl ?_
                                            cbv
                                            refine hF89 _ _ ?_
                                            cbv
                                            refine call_inline tab_holds eqs_holds mixed [] hO hX (by kernel_rfl) Try.func33 (by kernel_rfl) (by kernel_rfl) rfl ?_
                                            intro X90 hX90 hF90
                                            cbv
                                            obtain ⟨x319, h2, h1⟩ := bindS h1
                                            replace h2 := condT h2 rfl
                                            cases h2
                                            try dsimp only at h1
                                            obtain ⟨⟨l271, n111⟩, hv, h1⟩ := bindS h1
                                            try dsimp only at h1
                                            refine call_is hO hX90 (fn_rectangle_Minus hO hv) (by kernel_rfl) [5, 2] rfl ⟨rfl, rfl, rfl, rfl, trivial⟩ rfl ?_
                                            cbv
                                            refine hF90 _ _ ?_
                                            cbv
                                            obtain ⟨x321, h2, h1⟩ := bindS h1
                                            replace h2 := condT h2 rfl
                                            cases h2
                                            try dsimp only at h1
                                            obtain ⟨b131, hv, h1⟩ := bindS h1
                                            refine call_is hO hX (fn_rectangle_Equal hO hv) (by kernel_rfl) [29, 31] rfl ⟨rfl, rfl, rfl, rfl, trivial⟩ rfl ?_
                                            cbv
                                            rcases condS h1 with ⟨hc62, h1⟩ | ⟨hc62, h1⟩
                                            · rw [hc62]
                                              cbv
                                              refine call_inline tab_holds eqs_holds mixed [] hO hX (by kernel_rfl) Try.func33 (by kernel_rfl) (by kernel_rfl) rfl ?_
                                              intro X91 hX91 hF91
                                              cbv
                                              obtain ⟨⟨l272, n112⟩, hv, h1⟩ := bindS h1
                                              try dsimp only at h1
                                              refine call_is hO hX91 (fn_rectangle_Meet hO hv) (by kernel_rfl) [5, 1] rfl ⟨rfl, rfl, rfl, rfl, trivial⟩ rfl ?_
                                              cbv
                                              refine hF91 _ _ ?_
                                              cbv
                                              obtain ⟨x323, h2, h1⟩ := bindS h1
                                              replace h2 := condT h2 rfl
                                              cases h2
                                              try dsimp only at h1
                                              cases h1
                                              try dsimp only at h0
                                              obtain ⟨x332, h1, h0⟩ := bindS h0
                                              rcases condS h1 with ⟨hc63, h1⟩ | ⟨hc63, h1⟩
                                              · rw [hc63]
                                                cbv
                                                cases h1
                                                try dsimp only at h0
                                                cases h0
                                                exact fin_ok hX rfl ⟨[], _, _, ⟨rfl, rfl⟩, rfl, rfl, rfl, rfl, by cbv; try simp⟩
                                              · rw [hc63]
                                                cbv
                                                cases h1
                                                try dsimp only at h0
                                                cases h0
                                                exact fin_ok hX rfl ⟨[], _, _, ⟨rfl, rfl⟩, rfl, rfl, rfl, rfl, by cbv; try simp⟩
                                            · rw [hc62]
                                              cbv
                                              cases h1
                                              try dsimp only at h0
                                              obtain ⟨x332, h1, h0⟩ := bindS h0
                                              replace h1 := condF h1 rfl
                                              cases h1
                                              try dsimp only at h0
                                              cases h0
                                              exact fin_ok hX rfl ⟨[], _, _, ⟨rfl, rfl⟩, rfl, rfl, rfl, rfl, by cbv; try simp⟩
                                          · rw [hc61]
                                            cbv
                                            cases h1
                                            try dsimp only at h0
                                            obtain ⟨x332, h1, h0⟩ := bindS h0
                                            replace h1 := condF h1 rfl
                                            cases h1
                                            try dsimp only at h0
                                            cases h0
                                            exact fin_ok hX rfl ⟨[], _, _, ⟨rfl, rfl⟩, rfl, rfl, rfl, rfl, by cbv; try simp⟩
                                        · as_aux_lemma =>
                                          rw [hc60]
                                          cbv
                                          refine hF86 _ _ ?_
                                          cbv
                                          refine call_inline tab_holds eqs_holds mixed [] hO hX (by kernel_rfl) Try.func33 (by kernel_rfl) (by kernel_rfl) rfl ?_
                                          intro X92 hX92 hF92
                                          cbv
                                          cases h2
                                          try dsimp only at h1
                                          obtain ⟨⟨l268, n108⟩, hv, h1⟩ := bindS h1
                                          try dsimp only at h1
                                          refine call_is hO hX92 (fn_rectangle_Union hO hv) (by kernel_rfl) [7, 23] rfl ⟨rfl, rfl, rfl, rfl, trivial⟩ rfl ?_
                                          cbv
                                          obtain ⟨x315, h2, h1⟩ := bindS h1
                                          rcases condS h2 with ⟨hc64, h2⟩ | ⟨hc64, h2⟩
                                          · as_aux_lemma =>
                                            rw [hc64]
                                            cbv
                                            refine hF92 _ _ ?_
                                            cbv
                                            cases h2
                                            try dsimp only at h1
                                            obtain ⟨b130, hv, h1⟩ := bindS h1
                                            refine call_is hO hX (fn_rectangle_Equal hO hv) (by kernel_rfl) [21, 25] rfl ⟨rfl, rfl, rfl, rfl, trivial⟩ rfl ?_
                                            cbv
                                            rcases condS h1 with ⟨hc65, h1⟩ | ⟨hc65, h1⟩
                                            · as_aux_lemma =>
                                              rw [hc65]
                                              cbv
                                              refine call_inline tab_holds eqs_holds mixed [] hO hX (by kernel_rfl) Try.func33 (by kernel_rfl) (by kernel_rfl) rfl ?_
                                              intro X93 hX93 hF93
                                              cbv
                                              obtain ⟨⟨l269, n109⟩, hv, h1⟩ := bindS h1
                                              try dsimp only at h1
                                              refine call_is hO hX93 (fn_rectangle_Union hO hv) (by kernel_rfl) [1, 2] rfl ⟨rfl, rfl, rfl, rfl, trivial⟩ rfl ?_
                                              cbv
                                              refine hF93 _ _ ?_
                                              cbv
                                              refine call_inline tab_holds eqs_holds mixed [] hO hX (by kernel_rfl) Try.func33 (by kernel_rfl) (by kernel_rfl) rfl ?_
                                              intro X94 hX94 hF94
                                              cbv
                                              obtain ⟨x317, h2, h1⟩ := bindS h1
                                              replace h2 := condT h2 rfl
                                              cases h2
                                              try dsimp only at h1
                                              obtain ⟨⟨l270, n110⟩, hv, h1⟩ := bindS h1
                                              try dsimp only at h1
                                              refine call_is hO hX94 (fn_rectangle_Minus hO hv) (by kernel_rfl) [0, 27] rfl ⟨rfl, rfl, rfl, rfl, trivial⟩ rfl ?_
                                              cbv
                                              refine hF94 _ _ ?_
                                              cbv
                                              refine call_inline tab_holds eqs_holds mixed [] hO hX (by kernel_rfl) Try.func33 (by kernel_rfl) (by kernel_rfl) rfl ?_
                                              intro X95 hX95 hF95
                                              cbv
                                              obtain ⟨x319, h2, h1⟩ := bindS h1
                                              replace h2 := condT h2 rfl
                                              cases h2
                                              try dsimp only at h1
                                              obtain ⟨⟨l271, n111⟩, hv, h1⟩ := bindS h1
                                              try dsimp only at h1
                                              refine call_is hO hX95 (fn_rectangle_Minus hO hv) (by kernel_rfl) [5, 2] rfl ⟨rfl, rfl, rfl, rfl, trivial⟩ rfl ?_
                                              cbv
                                              refine hF95 _ _ ?_
                                              cbv
                                              obtain ⟨x321, h2, h1⟩ := bindS h1
                                              replace h2 := condT h2 rfl
                                              cases h2
                                              try dsimp only at h1
                                              obtain ⟨b131, hv, h1⟩ := bindS h1
                                              refine call_is hO hX (fn_rectangle_Equal hO hv) (by kernel_rfl) [29, 31] rfl ⟨rfl, rfl, rfl, rfl, trivial⟩ rfl ?_
                                              cbv
                                              rcases condS h1 with ⟨hc66, h1⟩ | ⟨hc66, h1⟩
                                              · rw [hc66]
                                                cbv
                                                refine call_inline tab_holds eqs_holds mixed [] hO hX (by kernel_rfl) Try.func33 (by kernel_rfl) (by kernel_rfl) rfl ?_
                                                intro X96 hX96 hF96
                                                cbv
                                                obtain ⟨⟨l272, n112⟩, hv, h1⟩ := bindS h1
                                                try dsimp only at h1
                                                refine call_is hO hX96 (fn_rectangle_Meet hO hv) (by kernel_rfl) [5, 1] rfl ⟨rfl, rfl, rfl, rfl, trivial⟩ rfl ?_
                                                cbv
                                                refine hF96 _ _ ?_
                                                cbv
                                                obtain ⟨x323, h2, h1⟩ := bindS h1
                                                replace h2 := condT h2 rfl
                                                cases h2
                                                try dsimp only at h1
                                                cases h1
                                                try dsimp only at h0
                                                obtain ⟨x332, h1, h0⟩ := bindS h0
                                                rcases condS h1 with ⟨hc67, h1⟩ | ⟨hc67, h1⟩
                                                · rw [hc67]
                                                  cbv
                                                  cases h1
                                                  try dsimp only at h0
                                                  cases h0
                                                  exact fin_ok hX rfl ⟨[], _, _, ⟨rfl, rfl⟩, rfl, rfl, rfl, rfl, by cbv; try simp⟩
                                                · rw [hc67]
                                                  cbv
                                                  cases h1
                                                  try dsimp only at h0
                                                  cases h0
                                                  exact fin_ok hX rfl ⟨[], _, _, ⟨rfl, rfl⟩, rfl, rfl, rfl, rfl, by cbv; try simp⟩
                                              · rw [hc66]
                                                cbv
                                                cases h1
                                                try dsimp only at h0
                                                obtain ⟨x332, h1, h0⟩ := bindS h0
                                                replace h1 := condF h1 rfl
                                                cases h1
                                                try dsimp only at h0
                                                cases h0
                                                exact fin_ok hX rfl ⟨[], _, _, ⟨rfl, rfl⟩, rfl, rfl, rfl, rfl, by cbv; try simp⟩
                                            · rw [hc65]
                                              cbv
                                              cases h1
                                              try dsimp only at h0
                                              obtain ⟨x332, h1, h0⟩ := bindS h0
                                              replace h1 := condF h1 rfl
                                              cases h1
                                              try dsimp only at h0
                                              cases h0
                                              exact fin_ok hX rfl ⟨[], _, _, ⟨rfl, rfl⟩, rfl, rfl, rfl, rfl, by cbv; try simp⟩
                                          · as_aux_lemma =>
                                            rw [hc64]
                                            cbv
                                            refine hF92 _ _ ?_
                                            cbv
                                            cases h2
                                            try dsimp only at h1
                                            obtain ⟨b130, hv, h1⟩ := bindS h1
                                            refine call_is hO hX (fn_rectangle_Equal hO hv) (by kernel_rfl) [21, 25] rfl ⟨rfl, rfl, rfl, rfl, trivial⟩ rfl ?_
                                            cbv
                                            rcases condS h1 with ⟨hc68, h1⟩ | ⟨hc68, h1⟩
                                            · as_aux_lemma =>
                                              rw [hc68]
                                              cbv
                                              refine call_inline tab_holds eqs_holds mixed [] hO hX (by kernel_rfl) Try.func33 (by kernel_rfl) (by kernel_rfl) rfl ?_
                                              intro X97 hX97 hF97
                                              cbv
                                              obtain ⟨⟨l269, n109⟩, hv, h1⟩ := bindS h1
                                              try dsimp only at h1
                                              refine call_is hO hX97 (fn_rectangle_Union hO hv) (by kernel_rfl) [1, 2] rfl ⟨rfl, rfl, rfl, rfl, trivial⟩ rfl ?_
                                              cbv
                                              obtain ⟨x317, h2, h1⟩ := bindS h1
                                              rcases condS h2 with ⟨hc69, h2⟩ | ⟨hc69, h2⟩
                                              · as_aux_lemma =>
                                                rw [hc69]
                                                cbv
                                                refine hF97 _ _ ?_
                                                cbv
                                                refine call_inline tab_holds eqs_holds mixed [] hO hX (by kernel_rfl) Try.func33 (by kernel_rfl) (by kernel_rfl) rfl ?_
                                                intro X98 hX98 hF98
                                                cbv
                                                cases h2
                                                try dsimp only at h1
                                                obtain ⟨⟨l270, n110⟩, hv, h1⟩ := bindS h1
                                                try dsimp only at h1
                                                refine call_is hO hX98 (fn_rectangle_Minus hO hv) (by kernel_rfl) [0, 27] rfl ⟨rfl, rfl, rfl, rfl, trivial⟩ rfl ?_
                                                cbv
                                                refine hF98 _ _ ?_
                                                cbv
                                                refine call_inline tab_holds eqs_holds mixed [] hO hX (by kernel_rfl) Try.func33 (by kernel_rfl) (by kernel_rfl) rfl ?_
                                                intro X99 hX99 hF99
                                                cbv
                                                obtain ⟨x319, h2, h1⟩ := bindS h1
                                                replace h2 := condT h2 rfl
                                                cases h2
                                                try dsimp only at h1
                                                obtain ⟨⟨l271, n111⟩, hv, h1⟩ := bindS h1
                                                try dsimp only at h1
                                                refine call_is hO hX99 (fn_rectangle_Minus hO hv) (by kernel_rfl) [5, 2] rfl ⟨rfl, rfl, rfl, rfl, trivial⟩ rfl ?_
                                                cbv
                                                refine hF99 _ _ ?_
                                                cbv
                                                obtain ⟨x321, h2, h1⟩ := bindS h1
                                                replace h2 := condT h2 rfl
                                                cases h2
                                                try dsimp only at h1
                                                obtain ⟨b131, hv, h1⟩ := bindS h1
                                                refine call_is hO hX (fn_rectangle_Equal hO hv) (by kernel_rfl) [29, 31] rfl ⟨rfl, rfl, rfl, rfl, trivial⟩ rfl ?_
                                                cbv
                                                rcases condS h1 with ⟨hc70, h1⟩ | ⟨hc70, h1⟩
                                                · rw [hc70]
                                                  cbv
                                                  refine call_inline tab_holds eqs_holds mixed [] hO hX (by kernel_rfl) Try.func33 (by kernel_rfl) (by kernel_rfl) rfl ?_
                                                  intro X100 hX100 hF100
                                                  cbv
                                                  obtain ⟨⟨l272, n112⟩, hv, h1⟩ := bindS h1
                                                  try dsimp only at h1
                                                  refine call_is hO hX100 (fn_rectangle_Meet hO hv) (by kernel_rfl) [5, 1] rfl ⟨rfl, rfl, rfl, rfl, trivial⟩ rfl ?_
                                                  cbv
                                                  refine hF100 _ _ ?_
                                                  cbv
                                                  obtain ⟨x323, h2, h1⟩ := bindS h1
                                                  replace h2 := condT h2 rfl
                                                  cases h2
                                                  try dsimp only at h1
                                                  cases h1
                                                  try dsimp only at h0
                                                  obtain ⟨x332, h1, h0⟩ := bindS h0
                                                  rcases condS h1 with ⟨hc71, h1⟩ | ⟨hc71, h1⟩
                                                  · rw [hc71]
                                                    cbv
                                                    cases h1
                                                    try dsimp only at h0
                                                    cases h0
                                                    exact fin_ok hX rfl ⟨[], _, _, ⟨rfl, rfl⟩, rfl, rfl, rfl, rfl, by cbv; try simp⟩
                                                  · rw [hc71]
                                                    cbv
                                                    cases h1
                                                    try dsimp only at h0
                                                    cases h0
                                                    exact fin_ok hX rfl ⟨[], _, _, ⟨rfl, rfl⟩, rfl, rfl, rfl, rfl, by cbv; try simp⟩
                                                · rw [hc70]
                                                  cbv
                                                  cases h1
                                                  try dsimp only at h0
                                                  obtain ⟨x332, h1, h0⟩ := bindS h0
                                                  replace h1 := condF h1 rfl
                                                  cases h1
                                                  try dsimp only at h0
                                                  cases h0
                                                  exact fin_ok hX rfl ⟨[], _, _, ⟨rfl, rfl⟩, rfl, rfl, rfl, rfl, by cbv; try simp⟩
                                              · as_aux_lemma =>
                                                rw [hc69]
                                                cbv
                                                refine hF97 _ _ ?_
                                                cbv
                                                refine call_inline tab_holds eqs_holds mixed [] hO hX (by kernel_rfl) Try.func33 (by kernel_rfl) (by kernel_rfl) rfl ?_
                                                intro X101 hX101 hF101
                                                cbv
                                                cases h2
                                                try dsimp only at h1
                                                obtain ⟨⟨l270, n110⟩, hv, h1⟩ := bindS h1
                                                try dsimp only at h1
                                                refine call_is hO hX101 (fn_rectangle_Minus hO hv) (by kernel_rfl) [0, 27] rfl ⟨rfl, rfl, rfl, rfl, trivial⟩ rfl ?_
                                                cbv
                                                obtain ⟨x319, h2, h1⟩ := bindS h1
                                                rcases condS h2 with ⟨hc72, h2⟩ | ⟨hc72, h2⟩
                                                · as_aux_lemma =>
                                                  rw [hc72]
                                                  cbv
                                                  refine hF101 _ _ ?_
                                                  cbv
                                                  refine call_inline tab_holds eqs_holds mixed [] hO hX (by kernel_rfl) Try.func33 (by kernel_rfl) (by kernel_rfl) rfl ?_
                                                  intro X102 hX102 hF102
                                                  cbv
                                                  cases h2
                                                  try dsimp only at h1
                                                  obtain ⟨⟨l271, n111⟩, hv, h1⟩ := bindS h1
                                                  try dsimp only at h1
                                                  refine call_is hO hX102 (fn_rectangle_Minus hO hv) (by kernel_rfl) [5, 2] rfl ⟨rfl, rfl, rfl, rfl, trivial⟩ rfl ?_
                                                  cbv
                                                  refine hF102 _ _ ?_
                                                  cbv
                                                  obtain ⟨x321, h2, h1⟩ := bindS h1
                                                  replace h2 := condT h2 rfl
                                                  cases h2
                                                  try dsimp only at h1
                                                  obtain ⟨b131, hv, h1⟩ := bindS h1
                                                  refine call_is hO hX (fn_rectangle_Equal hO hv) (by kernel_rfl) [29, 31] rfl ⟨rfl, rfl, rfl, rfl, trivial⟩ rfl ?_
                                                  cbv
                                                  rcases condS h1 with ⟨hc73, h1⟩ | ⟨hc73, h1⟩
                                                  · rw [hc73]
                                                    cbv
                                                    refine call_inline tab_holds eqs_holds mixed [] hO hX (by kernel_rfl) Try.func33 (by kernel_rfl) (by kernel_rfl) rfl ?_
                                                    intro X103 hX103 hF103
                                                    cbv
                                                    obtain ⟨⟨l272, n112⟩, hv, h1⟩ := bindS h1
                                                    try dsimp only at h1
                                                    refine call_is hO hX103 (fn_rectangle_Meet hO hv) (by kernel_rfl) [5, 1] rfl ⟨rfl, rfl, rfl, rfl, trivial⟩ rfl ?_
                                                    cbv
                                                    refine hF103 _ _ ?_
                                                    cbv
                                                    obtain ⟨x323, h2, h1⟩ := bindS h1
                                                    replace h2 := condT h2 rfl
                                                    cases h2
                                                    try dsimp only at h1
                                                    cases h1
                                                    try dsimp only at h0
                                                    obtain ⟨x332, h1, h0⟩ := bindS h0
                                                    rcases condS h1 with ⟨hc74, h1⟩ | ⟨hc74, h1⟩
                                                    · rw [hc74]
                                                      cbv
                                                      cases h1
                                                      try dsimp only at h0
                                                      cases h0
                                                      exact fin_ok hX rfl ⟨[], _, _, ⟨rfl, rfl⟩, rfl, rfl, rfl, rfl, by cbv; try simp⟩
                                                    · rw [hc74]
                                                      cbv
                                                      cases h1
                                                      try dsimp only at h0
                                                      cases h0
                                                      exact fin_ok hX rfl ⟨[], _, _, ⟨rfl, rfl⟩, rfl, rfl, rfl, rfl, by cbv; try simp⟩
                                                  · rw [hc73]
                                                    cbv
                                                    cases h1
                                                    try dsimp only at h0
                                                    obtain ⟨x332, h1, h0⟩ := bindS h0
                                                    replace h1 := condF h1 rfl
                                                    cases h1
                                                    try dsimp only at h0
                                                    cases h0
                                                    exact fin_ok hX rfl ⟨[], _, _, ⟨rfl, rfl⟩, rfl, rfl, rfl, rfl, by cbv; try simp⟩
                                                · as_aux_lemma =>
                                                  rw [hc72]
                                                  cbv
                                                  refine hF101 _ _ ?_
                                                  cbv
                                                  refine call_inline tab_holds eqs_holds mixed [] hO hX (by kernel_rfl) Try.func33 (by kernel_rfl) (by kernel_rfl) rfl ?_
                                                  intro X104 hX104 hF104
                                                  cbv
                                                  cases h2
                                                  try dsimp only at h1
                                                  obtain ⟨⟨l271, n111⟩, hv, h1⟩ := bindS h1
                                                  try dsimp only at h1
                                                  refine call_is hO hX104 (fn_rectangle_Minus hO hv) (by kernel_rfl) [5, 2] rfl ⟨rfl, rfl, rfl, rfl, trivial⟩ rfl ?_
                                                  cbv
                                                  obtain ⟨x321, h2, h1⟩ := bindS h1
                                                  rcases condS h2 with ⟨hc75, h2⟩ | ⟨hc75, h2⟩
                                                  · as_aux_lemma =>
                                                    rw [hc75]
                                                    cbv
                                                    refine hF104 _ _ ?_
                                                    cbv
                                                    cases h2
                                                    try dsimp only at h1
                                                    obtain ⟨b131, hv, h1⟩ := bindS h1
                                                    refine call_is hO hX (fn_rectangle_Equal hO hv) (by kernel_rfl) [29, 31] rfl ⟨rfl, rfl, rfl, rfl, trivial⟩ rfl ?_
                                                    cbv
                                                    rcases condS h1 with ⟨hc76, h1⟩ | ⟨hc76, h1⟩
                                                    · rw [hc76]
                                                      cbv
                                                      refine call_inline tab_holds eqs_holds mixed [] hO hX (by kernel_rfl) Try.func33 (by kernel_rfl) (by kernel_rfl) rfl ?_
                                                      intro X105 hX105 hF105
                                                      cbv
                                                      obtain ⟨⟨l272, n112⟩, hv, h1⟩ := bindS h1
                                                      try dsimp only at h1
                                                      refine call_is hO hX105 (fn_rectangle_Meet hO hv) (by kernel_rfl) [5, 1] rfl ⟨rfl, rfl, rfl, rfl, trivial⟩ rfl ?_
                                                      cbv
                                                      refine hF105 _ _ ?_
                                                      cbv
                                                      obtain ⟨x323, h2, h1⟩ := bindS h1
                                                      replace h2 := condT h2 rfl
                                                      cases h2
                                                      try dsimp only at h1
                                                      cases h1
                                                      try dsimp only at h0
                                                      obtain ⟨x332, h1, h0⟩ := bindS h0
                                                      rcases condS h1 with ⟨hc77, h1⟩ | ⟨hc77, h1⟩
                                                      · rw [hc77]
                                                        cbv
                                                        cases h1
                                                        try dsimp only at h0
                                                        cases h0
                                                        exact fin_ok hX rfl ⟨[], _, _, ⟨rfl, rfl⟩, rfl, rfl, rfl, rfl, by cbv; try simp⟩
                                                      · rw [hc77]
                                                        cbv
                                                        cases h1
                                                        try dsimp only at h0
                                                        cases h0
                                                        exact fin_ok hX rfl ⟨[], _, _, ⟨rfl, rfl⟩, rfl, rfl, rfl, rfl, by cbv; try simp⟩
                                                    · rw [hc76]
                                                      cbv
                                                      cases h1
                                                      try dsimp only at h0
                                                      obtain ⟨x332, h1, h0⟩ := bindS h0
                                                      replace h1 := condF h1 rfl
                                                      cases h1
                                                      try dsimp only at h0
                                                      cases h0
                                                      exact fin_ok hX rfl ⟨[], _, _, ⟨rfl, rfl⟩, rfl, rfl, rfl, rfl, by cbv; try simp⟩
                                                  · as_aux_lemma =>
                                                    rw [hc75]
                                                    cbv
                                                    refine hF104 _ _ ?_
                                                    cbv
                                                    cases h2
                                                    try dsimp only at h1
                                                    obtain ⟨b131, hv, h1⟩ := bindS h1
                                                    refine call_is hO hX (fn_rectangle_Equal hO hv) (by kernel_rfl) [29, 31] rfl ⟨rfl, rfl, rfl, rfl, trivial⟩ rfl ?_
                                                    cbv
                                                    rcases condS h1 with ⟨hc78, h1⟩ | ⟨hc78, h1⟩
                                                    · as_aux_lemma =>
                                                      rw [hc78]
                                                      cbv
                                                      refine call_inline tab_holds eqs_holds mixed [] hO hX (by kernel_rfl) Try.func33 (by kernel_rfl) (by kernel_rfl) rfl ?_
                                                      intro X106 hX106 hF106
                                                      cbv
                                                      obtain ⟨⟨l272, n112⟩, hv, h1⟩ := bindS h1
                                                      try dsimp only at h1
                                                      refine call_is hO hX106 (fn_rectangle_Meet hO hv) (by kernel_rfl) [5, 1] rfl ⟨rfl, rfl, rfl, rfl, trivial⟩ rfl ?_
                                                      cbv
                                                      obtain ⟨x323, h2, h1⟩ := bindS h1
                                                      rcases condS h2 with ⟨hc79, h2⟩ | ⟨hc79, h2⟩
                                                      · rw [hc79]
                                                        cbv
                                                        refine hF106 _ _ ?_
                                                        cbv
                                                        cases h2
                                                        try dsimp only at h1
                                                        cases h1
                                                        try dsimp only at h0
                                                        obtain ⟨x332, h1, h0⟩ := bindS h0
                                                        rcases condS h1 with ⟨hc80, h1⟩ | ⟨hc80, h1⟩
                                                        · rw [hc80]
                                                          cbv
                                                          cases h1
                                                          try dsimp only at h0
                                                          cases h0
                                                          exact fin_ok hX rfl ⟨[], _, _, ⟨rfl, rfl⟩, rfl, rfl, rfl, rfl, by cbv; try simp⟩
                                                        · rw [hc80]
                                                          cbv
                                                          cases h1
                                                          try dsimp only at h0
                                                          cases h0
                                                          exact fin_ok hX rfl ⟨[], _, _, ⟨rfl, rfl⟩, rfl, rfl, rfl, rfl, by cbv; try simp⟩
                                                      · rw [hc79]
                                                        cbv
                                                        refine hF106 _ _ ?_
                                                        cbv
                                                        cases h2
                                                        try dsimp only at h1
                                                        cases h1
                                                        try dsimp only at h0
                                                        obtain ⟨x332, h1, h0⟩ := bindS h0
                                                        rcases condS h1 with ⟨hc81, h1⟩ | ⟨hc81, h1⟩
                                                        · rw [hc81]
                                                          cbv
                                                          cases h1
                                                          try dsimp only at h0
                                                          cases h0
                                                          exact fin_ok hX rfl ⟨[], _, _, ⟨rfl, rfl⟩, rfl, rfl, rfl, rfl, by cbv; try simp⟩
                                                        · rw [hc81]
                                                          cbv
                                                          cases h1
                                                          try dsimp only at h0
                                                          cases h0
                                                          exact fin_ok hX rfl ⟨[], _, _, ⟨rfl, rfl⟩, rfl, rfl, rfl, rfl, by cbv; try simp⟩
                                                    · rw [hc78]
                                                      cbv
                                                      cases h1
                                                      try dsimp only at h0
                                                      obtain ⟨x332, h1, h0⟩ := bindS h0
                                                      replace h1 := condF h1 rfl
                                                      cases h1
                                                      try dsimp only at h0
                                                      cases h0
                                                      exact fin_ok hX rfl ⟨[], _, _, ⟨rfl, rfl⟩, rfl, rfl, rfl, rfl, by cbv; try simp⟩
                                            · rw [hc68]
                                              cbv
                                              cases h1
                                              try dsimp only at h0
                                              obtain ⟨x332, h1, h0⟩ := bindS h0
                                              replace h1 := condF h1 rfl
                                              cases h1
                                              try dsimp only at h0
                                              cases h0
                                              exact fin_ok hX rfl ⟨[], _, _, ⟨rfl, rfl⟩, rfl, rfl, rfl, rfl, by cbv; try simp⟩
                                  · rw [hc51]
                                    cbv
                                    cases h1
                                    try dsimp only at h0
                                    obtain ⟨x332, h1, h0⟩ := bindS h0
                                    replace h1 := condF h1 rfl
                                    cases h1
                                    try dsimp only at h0
                                    cases h0
                                    exact fin_ok hX rfl ⟨[], _, _, ⟨rfl, rfl⟩, rfl, rfl, rfl, rfl, by cbv; try simp⟩
                              · rw [hc45]
                                cbv
                                cases h1
                                try dsimp only at h0
                                obtain ⟨x332, h1, h0⟩ := bindS h0
                                replace h1 := condF h1 rfl
                                cases h1
                                try dsimp only at h0
                                cases h0
                                exact fin_ok hX rfl ⟨[], _, _, ⟨rfl, rfl⟩, rfl, rfl, rfl, rfl, by cbv; try simp⟩
                        · rw [hc32]
                          cbv
                          cases h1
                          try dsimp only at h0
                          obtain ⟨x332, h1, h0⟩ := bindS h0
                          replace h1 := condF h1 rfl
                          cases h1
                          try dsimp only at h0
                          cases h0
                          exact fin_ok hX rfl ⟨[], _, _, ⟨rfl, rfl⟩, rfl, rfl, rfl, rfl, by cbv; try simp⟩
                    · rw [hc24]
                      cbv
                      cases h1
                      try dsimp only at h0
                      obtain ⟨x332, h1, h0⟩ := bindS h0
                      replace h1 := condF h1 rfl
                      cases h1
                      try dsimp only at h0
                      cases h0
                      exact fin_ok hX rfl ⟨[], _, _, ⟨rfl, rfl⟩, rfl, rfl, rfl, rfl, by cbv; try simp⟩
end Go.Proofs.Ytkdffpncpikdmaa
