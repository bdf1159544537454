/-
  The code does what its models say (printed by lift.py).
-/
import Derived.Test.YtegmjohhgedakaaBM
import Derived.Test.YtegmjohhgedakaaSrtB
import Derived.Test.YtegmjohhgedakaaBW1
import Derived.Test.YtegmjohhgedakaaBW2
import Derived.Test.YtegmjohhgedakaaBW4
import Derived.Test.YtegmjohhgedakaaBW5
namespace Go.Proofs.Ytegmjohhgedakaa
open Go.RowKit
set_option maxRecDepth 100000

set_option maxHeartbeats 40000000 in
theorem fn_law45_BoundsBetween {O0 : Ops} (hO0 : O0 = std) {n_1 : Int} {i_1 : Int} {j_1 : Int} {l_1 : List (Int × Int × Int)} {r1 : Bool} (h : m_law45_BoundsBetween O0 n_1 i_1 j_1 l_1 = some r1) :
    Fn Try.prog 4 [.c (.int .i64 n_1), .c (.sl 0), .c (.int .i64 i_1), .c (.int .i64 j_1)] [.arr false .i3 l_1] (fun v c => v = .c (.bool r1) ∧ c = []) := by
  refine fn_run tab_holds eqs_holds mixed [] Try.func4 (by kernel_rfl) (by kernel_rfl) (Nat.le_of_ble_eq_true rfl) ?_
  intro O X hO hX
  rw [hO0, ← hO] at h
  unfold m_law45_BoundsBetween at h
  have h0 := h; clear h
  cbv
  obtain ⟨x112, h1, h0⟩ := bindS h0
  obtain ⟨b31, hv, h1⟩ := bindS h1
  refine call_is hO hX (fn_law45_awake hO hv) (by kernel_rfl) [] rfl trivial rfl ?_
  cbv
  rcases condS h1 with ⟨hc1, h1⟩ | ⟨hc1, h1⟩
  · rw [hc1]
    cbv
    cases h1
    try dsimp only at h0
    replace h0 := condT h0 rfl
    obtain ⟨b33, hv, h0⟩ := bindS h0
    refine call_is hO hX (fn_law45_awake hO hv) (by kernel_rfl) [] rfl trivial rfl ?_
    cbv
    cases h0
    exact fin_ok hX rfl ⟨[], _, _, ⟨rfl, rfl⟩, rfl, rfl, rfl, rfl, by cbv; try simp⟩
  · rw [hc1]
    cbv
    obtain ⟨b32, hv, h1⟩ := bindS h1
    refine call_is hO hX (fn_law45_long hO hv) (by kernel_rfl) [0] rfl ⟨rfl, rfl, trivial⟩ rfl ?_
    cbv
    cases h1
    try dsimp only at h0
    rcases condS h0 with ⟨hc2, h0⟩ | ⟨hc2, h0⟩
    · rw [hc2]
      cbv
      obtain ⟨b33, hv, h0⟩ := bindS h0
      refine call_is hO hX (fn_law45_awake hO hv) (by kernel_rfl) [] rfl trivial rfl ?_
      cbv
      cases h0
      exact fin_ok hX rfl ⟨[], _, _, ⟨rfl, rfl⟩, rfl, rfl, rfl, rfl, by cbv; try simp⟩
    · rw [hc2]
      cbv
      obtain ⟨⟨n23, n24, n25⟩, hv, h0⟩ := bindS h0
      try dsimp only at h0
      refine call_is hO hX (fn_bounds_Between hO hv) (by kernel_rfl) [0] rfl ⟨rfl, rfl, trivial⟩ rfl ?_
      cbv
      obtain ⟨b34, hv, h0⟩ := bindS h0
      refine call_is hO hX (fn_ref45_Valid hO hv) (by kernel_rfl) [0] rfl ⟨rfl, rfl, trivial⟩ rfl ?_
      cbv
      rcases condS h0 with ⟨hc3, h0⟩ | ⟨hc3, h0⟩
      · rw [hc3]
        cbv
        obtain ⟨x115, h1, h0⟩ := bindS h0
        rcases condS h1 with ⟨hc4, h1⟩ | ⟨hc4, h1⟩
        · rw [hc4]
          cbv
          rcases condS h1 with ⟨hc5, h1⟩ | ⟨hc5, h1⟩
          · rw [hc5]
            cbv
            cases h1
            try dsimp only at h0
            cases h0
            exact fin_ok hX rfl ⟨[], _, _, ⟨rfl, rfl⟩, rfl, rfl, rfl, rfl, by cbv; try simp⟩
          · rw [hc5]
            cbv
            cases h1
            try dsimp only at h0
            cases h0
            exact fin_ok hX rfl ⟨[], _, _, ⟨rfl, rfl⟩, rfl, rfl, rfl, rfl, by cbv; try simp⟩
        · rw [hc4]
          cbv
          cases h1
          try dsimp only at h0
          cases h0
          exact fin_ok hX rfl ⟨[], _, _, ⟨rfl, rfl⟩, rfl, rfl, rfl, rfl, by cbv; try simp⟩
      · rw [hc3]
        cbv
        obtain ⟨⟨l55, b35⟩, hv, h0⟩ := bindS h0
        try dsimp only at h0
        refine call_is hO hX (fn_ref45_Tight hO hv) (by kernel_rfl) [0] rfl ⟨rfl, rfl, trivial⟩ rfl ?_
        cbv
        obtain ⟨x117, h1, h0⟩ := bindS h0
        rcases condS h1 with ⟨hc6, h1⟩ | ⟨hc6, h1⟩
        · rw [hc6]
          cbv
          cases h1
          try dsimp only at h0
          obtain ⟨e1, h1, h0⟩ := bindS h0
          replace h1 := condT h1 rfl
          obtain ⟨x120, h2, h1⟩ := bindS h1
          rcases condS h2 with ⟨hc7, h2⟩ | ⟨hc7, h2⟩
          · rw [hc7]
            cbv
            rcases condS h2 with ⟨hc8, h2⟩ | ⟨hc8, h2⟩
            · rw [hc8]
              cbv
              cases h2
              try dsimp only at h1
              cases h1
              try dsimp only at h0
              cases h0
              exact fin_ok hX rfl ⟨[], _, _, ⟨rfl, rfl⟩, rfl, rfl, rfl, rfl, by cbv; try simp⟩
            · rw [hc8]
              cbv
              cases h2
              try dsimp only at h1
              cases h1
              try dsimp only at h0
              cases h0
              exact fin_ok hX rfl ⟨[], _, _, ⟨rfl, rfl⟩, rfl, rfl, rfl, rfl, by cbv; try simp⟩
          · rw [hc7]
            cbv
            cases h2
            try dsimp only at h1
            cases h1
            try dsimp only at h0
            cases h0
            exact fin_ok hX rfl ⟨[], _, _, ⟨rfl, rfl⟩, rfl, rfl, rfl, rfl, by cbv; try simp⟩
        · rw [hc6]
          cbv
          rcases condS h1 with ⟨hc9, h1⟩ | ⟨hc9, h1⟩
          · rw [hc9]
            cbv
            cases h1
            try dsimp only at h0
            obtain ⟨e1, h1, h0⟩ := bindS h0
            replace h1 := condT h1 rfl
            obtain ⟨x120, h2, h1⟩ := bindS h1
            rcases condS h2 with ⟨hc10, h2⟩ | ⟨hc10, h2⟩
            · rw [hc10]
              cbv
              rcases condS h2 with ⟨hc11, h2⟩ | ⟨hc11, h2⟩
              · rw [hc11]
                cbv
                cases h2
                try dsimp only at h1
                cases h1
                try dsimp only at h0
                cases h0
                exact fin_ok hX rfl ⟨[], _, _, ⟨rfl, rfl⟩, rfl, rfl, rfl, rfl, by cbv; try simp⟩
              · rw [hc11]
                cbv
                cases h2
                try dsimp only at h1
                cases h1
                try dsimp only at h0
                cases h0
                exact fin_ok hX rfl ⟨[], _, _, ⟨rfl, rfl⟩, rfl, rfl, rfl, rfl, by cbv; try simp⟩
            · rw [hc10]
              cbv
              cases h2
              try dsimp only at h1
              cases h1
              try dsimp only at h0
              cases h0
              exact fin_ok hX rfl ⟨[], _, _, ⟨rfl, rfl⟩, rfl, rfl, rfl, rfl, by cbv; try simp⟩
          · rw [hc9]
            cbv
            rcases condS h1 with ⟨hc12, h1⟩ | ⟨hc12, h1⟩
            · rw [hc12]
              cbv
              cases h1
              try dsimp only at h0
              obtain ⟨e1, h1, h0⟩ := bindS h0
              replace h1 := condT h1 rfl
              obtain ⟨x120, h2, h1⟩ := bindS h1
              rcases condS h2 with ⟨hc13, h2⟩ | ⟨hc13, h2⟩
              · rw [hc13]
                cbv
                rcases condS h2 with ⟨hc14, h2⟩ | ⟨hc14, h2⟩
                · rw [hc14]
                  cbv
                  cases h2
                  try dsimp only at h1
                  cases h1
                  try dsimp only at h0
                  cases h0
                  exact fin_ok hX rfl ⟨[], _, _, ⟨rfl, rfl⟩, rfl, rfl, rfl, rfl, by cbv; try simp⟩
                · rw [hc14]
                  cbv
                  cases h2
                  try dsimp only at h1
                  cases h1
                  try dsimp only at h0
                  cases h0
                  exact fin_ok hX rfl ⟨[], _, _, ⟨rfl, rfl⟩, rfl, rfl, rfl, rfl, by cbv; try simp⟩
              · rw [hc13]
                cbv
                cases h2
                try dsimp only at h1
                cases h1
                try dsimp only at h0
                cases h0
                exact fin_ok hX rfl ⟨[], _, _, ⟨rfl, rfl⟩, rfl, rfl, rfl, rfl, by cbv; try simp⟩
            · rw [hc12]
              cbv
              cases h1
              try dsimp only at h0
              obtain ⟨e1, h1, h0⟩ := bindS h0
              rcases condS h1 with ⟨hc15, h1⟩ | ⟨hc15, h1⟩
              · rw [hc15]
                cbv
                obtain ⟨x120, h2, h1⟩ := bindS h1
                rcases condS h2 with ⟨hc16, h2⟩ | ⟨hc16, h2⟩
                · rw [hc16]
                  cbv
                  rcases condS h2 with ⟨hc17, h2⟩ | ⟨hc17, h2⟩
                  · rw [hc17]
                    cbv
                    cases h2
                    try dsimp only at h1
                    cases h1
                    try dsimp only at h0
                    cases h0
                    exact fin_ok hX rfl ⟨[], _, _, ⟨rfl, rfl⟩, rfl, rfl, rfl, rfl, by cbv; try simp⟩
                  · rw [hc17]
                    cbv
                    cases h2
                    try dsimp only at h1
                    cases h1
                    try dsimp only at h0
                    cases h0
                    exact fin_ok hX rfl ⟨[], _, _, ⟨rfl, rfl⟩, rfl, rfl, rfl, rfl, by cbv; try simp⟩
                · rw [hc16]
                  cbv
                  cases h2
                  try dsimp only at h1
                  cases h1
                  try dsimp only at h0
                  cases h0
                  exact fin_ok hX rfl ⟨[], _, _, ⟨rfl, rfl⟩, rfl, rfl, rfl, rfl, by cbv; try simp⟩
              · rw [hc15]
                cbv
                rcases condS h1 with ⟨hc18, h1⟩ | ⟨hc18, h1⟩
                · rw [hc18]
                  cbv
                  obtain ⟨x123, h2, h1⟩ := bindS h1
                  rcases condS h2 with ⟨hc19, h2⟩ | ⟨hc19, h2⟩
                  · rw [hc19]
                    cbv
                    rcases condS h2 with ⟨hc20, h2⟩ | ⟨hc20, h2⟩
                    · rw [hc20]
                      cbv
                      cases h2
                      try dsimp only at h1
                      cases h1
                      try dsimp only at h0
                      cases h0
                      exact fin_ok hX rfl ⟨[], _, _, ⟨rfl, rfl⟩, rfl, rfl, rfl, rfl, by cbv; try simp⟩
                    · rw [hc20]
                      cbv
                      cases h2
                      try dsimp only at h1
                      cases h1
                      try dsimp only at h0
                      cases h0
                      exact fin_ok hX rfl ⟨[], _, _, ⟨rfl, rfl⟩, rfl, rfl, rfl, rfl, by cbv; try simp⟩
                  · rw [hc19]
                    cbv
                    cases h2
                    try dsimp only at h1
                    cases h1
                    try dsimp only at h0
                    cases h0
                    exact fin_ok hX rfl ⟨[], _, _, ⟨rfl, rfl⟩, rfl, rfl, rfl, rfl, by cbv; try simp⟩
                · rw [hc18]
                  cbv
                  cases h1
                  try dsimp only at h0
                  obtain ⟨x128, h1, h0⟩ := bindS h0
                  rcases condS h1 with ⟨hc21, h1⟩ | ⟨hc21, h1⟩
                  · rw [hc21]
                    cbv
                    rcases condS h1 with ⟨hc22, h1⟩ | ⟨hc22, h1⟩
                    · rw [hc22]
                      cbv
                      obtain ⟨hg23, h1⟩ := grdS h1
                      refine ⟨idx_of hO hg23, ?_⟩
                      obtain ⟨hg24, h1⟩ := grdS h1
                      refine ⟨kin_of hO hg24, ?_⟩
                      obtain ⟨hg25, h1⟩ := grdS h1
                      refine ⟨idx_of hO hg25, ?_⟩
                      obtain ⟨hg26, h1⟩ := grdS h1
                      refine ⟨kin_of hO hg26, ?_⟩
                      obtain ⟨hg27, h1⟩ := grdS h1
                      refine ⟨inr_of hO hg27, ?_⟩
                      obtain ⟨hg28, h1⟩ := grdS h1
                      refine ⟨idx_of hO hg28, ?_⟩
                      obtain ⟨hg29, h1⟩ := grdS h1
                      refine ⟨kin_of hO hg29, ?_⟩
                      obtain ⟨hg30, h1⟩ := grdS h1
                      refine ⟨idx_of hO hg30, ?_⟩
                      obtain ⟨hg31, h1⟩ := grdS h1
                      refine ⟨kin_of hO hg31, ?_⟩
                      cases h1
                      try dsimp only at h0
                      cases h0
                      exact fin_ok hX rfl ⟨[], _, _, ⟨rfl, rfl⟩, rfl, rfl, rfl, rfl, by cbv; try simp⟩
                    · rw [hc22]
                      cbv
                      obtain ⟨hg32, h1⟩ := grdS h1
                      refine ⟨idx_of hO hg32, ?_⟩
                      obtain ⟨hg33, h1⟩ := grdS h1
                      refine ⟨kin_of hO hg33, ?_⟩
                      obtain ⟨hg34, h1⟩ := grdS h1
                      refine ⟨idx_of hO hg34, ?_⟩
                      obtain ⟨hg35, h1⟩ := grdS h1
                      refine ⟨kin_of hO hg35, ?_⟩
                      obtain ⟨hg36, h1⟩ := grdS h1
                      refine ⟨inr_of hO hg36, ?_⟩
                      cases h1
                      try dsimp only at h0
                      cases h0
                      exact fin_ok hX rfl ⟨[], _, _, ⟨rfl, rfl⟩, rfl, rfl, rfl, rfl, by cbv; try simp⟩
                  · rw [hc21]
                    cbv
                    cases h1
                    try dsimp only at h0
                    cases h0
                    exact fin_ok hX rfl ⟨[], _, _, ⟨rfl, rfl⟩, rfl, rfl, rfl, rfl, by cbv; try simp⟩
end Go.Proofs.Ytegmjohhgedakaa
