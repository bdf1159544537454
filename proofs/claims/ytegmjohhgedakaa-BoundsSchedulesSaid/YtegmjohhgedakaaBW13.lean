/-
  The code does what its models say (printed by lift.py).
-/
import Derived.Test.YtegmjohhgedakaaBM
import Derived.Test.YtegmjohhgedakaaSrtB
import Derived.Test.YtegmjohhgedakaaBW1
import Derived.Test.YtegmjohhgedakaaBW4
import Derived.Test.YtegmjohhgedakaaBW5
import Derived.Test.YtegmjohhgedakaaBW11
import Derived.Test.YtegmjohhgedakaaBW12
namespace Go.Proofs.Ytegmjohhgedakaa
open Go.RowKit
set_option maxRecDepth 100000

set_option maxHeartbeats 40000000 in
theorem fn_law45_BoundsSchedules {O0 : Ops} (hO0 : O0 = std) {n_1 : Int} {end_1 : Int} {l_1 : List (Int × Int × Int)} {r1 : Bool} (h : m_law45_BoundsSchedules O0 n_1 end_1 l_1 = some r1) :
    Fn Try.prog 7 [.c (.int .i64 n_1), .c (.sl 0), .c (.int .i64 end_1)] [.arr false .i3 l_1] (fun v c => v = .c (.bool r1) ∧ c = []) := by
  refine fn_run tab_holds eqs_holds mixed [] Try.func7 (by kernel_rfl) (by kernel_rfl) (Nat.le_of_ble_eq_true rfl) ?_
  intro O X hO hX
  rw [hO0, ← hO] at h
  unfold m_law45_BoundsSchedules at h
  have h0 := h; clear h
  cbv
  obtain ⟨x130, h1, h0⟩ := bindS h0
  obtain ⟨b36, hv, h1⟩ := bindS h1
  refine call_is hO hX (fn_law45_awake hO hv) (by kernel_rfl) [] rfl trivial rfl ?_
  cbv
  rcases condS h1 with ⟨hc1, h1⟩ | ⟨hc1, h1⟩
  · rw [hc1]
    cbv
    cases h1
    try dsimp only at h0
    replace h0 := condT h0 rfl
    obtain ⟨b37, hv, h0⟩ := bindS h0
    refine call_is hO hX (fn_law45_awake hO hv) (by kernel_rfl) [] rfl trivial rfl ?_
    cbv
    cases h0
    exact fin_ok hX rfl ⟨[], _, _, ⟨rfl, rfl⟩, rfl, rfl, rfl, rfl, by cbv; try simp⟩
  · as_aux_lemma =>
    rw [hc1]
    cbv
    cases h1
    try dsimp only at h0
    rcases condS h0 with ⟨hc2, h0⟩ | ⟨hc2, h0⟩
    · rw [hc2]
      cbv
      obtain ⟨b37, hv, h0⟩ := bindS h0
      refine call_is hO hX (fn_law45_awake hO hv) (by kernel_rfl) [] rfl trivial rfl ?_
      cbv
      cases h0
      exact fin_ok hX rfl ⟨[], _, _, ⟨rfl, rfl⟩, rfl, rfl, rfl, rfl, by cbv; try simp⟩
    · as_aux_lemma =>
      rw [hc2]
      cbv
      obtain ⟨⟨l56, n26⟩, hv, h0⟩ := bindS h0
      try dsimp only at h0
      refine call_is hO hX (fn_bounds_Earliest hO hv) (by kernel_rfl) [0] rfl ⟨rfl, rfl, trivial⟩ rfl ?_
      cbv
      obtain ⟨⟨l62, n27⟩, hv, h0⟩ := bindS h0
      try dsimp only at h0
      refine call_is hO hX (fn_bounds_Latest hO hv) (by kernel_rfl) [0] rfl ⟨rfl, rfl, trivial⟩ rfl ?_
      cbv
      obtain ⟨b40, hv, h0⟩ := bindS h0
      refine call_is hO hX (fn_ref45_Valid hO hv) (by kernel_rfl) [0] rfl ⟨rfl, rfl, trivial⟩ rfl ?_
      cbv
      rcases condS h0 with ⟨hc3, h0⟩ | ⟨hc3, h0⟩
      · rw [hc3]
        cbv
        obtain ⟨x138, h1, h0⟩ := bindS h0
        rcases condS h1 with ⟨hc4, h1⟩ | ⟨hc4, h1⟩
        · rw [hc4]
          cbv
          rcases condS h1 with ⟨hc5, h1⟩ | ⟨hc5, h1⟩
          · rw [hc5]
            cbv
            rcases condS h1 with ⟨hc6, h1⟩ | ⟨hc6, h1⟩
            · rw [hc6]
              cbv
              cases h1
              try dsimp only at h0
              cases h0
              exact fin_ok hX rfl ⟨[], _, _, ⟨rfl, rfl⟩, rfl, rfl, rfl, rfl, by cbv; try simp⟩
            · rw [hc6]
              cbv
              cases h1
              try dsimp only at h0
              cases h0
              exact fin_ok hX rfl ⟨[], _, _, ⟨rfl, rfl⟩, rfl, rfl, rfl, rfl, by cbv; try simp⟩
          · rw [hc5]
            cbv
            cases h1
            try dsimp only at h0
            cases h0
            exact fin_ok hX rfl ⟨[], _, _, ⟨rfl, rfl⟩, rfl, rfl, rfl, rfl, by cbv; try simp⟩
        · rw [hc4]
          cbv
          cases h1
          try dsimp only at h0
          cases h0
          exact fin_ok hX rfl ⟨[], _, _, ⟨rfl, rfl⟩, rfl, rfl, rfl, rfl, by cbv; try simp⟩
      · as_aux_lemma =>
        rw [hc3]
        cbv
        obtain ⟨⟨l63, b41⟩, hv, h0⟩ := bindS h0
        try dsimp only at h0
        refine call_is hO hX (fn_ref45_Tight hO hv) (by kernel_rfl) [0] rfl ⟨rfl, rfl, trivial⟩ rfl ?_
        cbv
        obtain ⟨e1, h1, h0⟩ := bindS h0
        rcases condS h1 with ⟨hc7, h1⟩ | ⟨hc7, h1⟩
        · rw [hc7]
          cbv
          obtain ⟨x140, h2, h1⟩ := bindS h1
          rcases condS h2 with ⟨hc8, h2⟩ | ⟨hc8, h2⟩
          · rw [hc8]
            cbv
            cases h2
            try dsimp only at h1
            replace h1 := condT h1 rfl
            cases h1
            try dsimp only at h0
            cases h0
            exact fin_ok hX rfl ⟨[], _, _, ⟨rfl, rfl⟩, rfl, rfl, rfl, rfl, by cbv; try simp⟩
          · rw [hc8]
            cbv
            cases h2
            try dsimp only at h1
            rcases condS h1 with ⟨hc9, h1⟩ | ⟨hc9, h1⟩
            · rw [hc9]
              cbv
              cases h1
              try dsimp only at h0
              cases h0
              exact fin_ok hX rfl ⟨[], _, _, ⟨rfl, rfl⟩, rfl, rfl, rfl, rfl, by cbv; try simp⟩
            · rw [hc9]
              cbv
              cases h1
              try dsimp only at h0
              obtain ⟨x151, h1, h0⟩ := bindS h0
              rcases condS h1 with ⟨hc10, h1⟩ | ⟨hc10, h1⟩
              · rw [hc10]
                cbv
                cases h1
                try dsimp only at h0
                replace h0 := condT h0 rfl
                obtain ⟨x153, h1, h0⟩ := bindS h0
                rcases condS h1 with ⟨hc11, h1⟩ | ⟨hc11, h1⟩
                · rw [hc11]
                  cbv
                  cases h1
                  try dsimp only at h0
                  cases h0
                  exact fin_ok hX rfl ⟨[], _, _, ⟨rfl, rfl⟩, rfl, rfl, rfl, rfl, by cbv; try simp⟩
                · rw [hc11]
                  cbv
                  cases h1
                  try dsimp only at h0
                  cases h0
                  exact fin_ok hX rfl ⟨[], _, _, ⟨rfl, rfl⟩, rfl, rfl, rfl, rfl, by cbv; try simp⟩
              · rw [hc10]
                cbv
                cases h1
                try dsimp only at h0
                rcases condS h0 with ⟨hc12, h0⟩ | ⟨hc12, h0⟩
                · rw [hc12]
                  cbv
                  obtain ⟨x153, h1, h0⟩ := bindS h0
                  rcases condS h1 with ⟨hc13, h1⟩ | ⟨hc13, h1⟩
                  · rw [hc13]
                    cbv
                    cases h1
                    try dsimp only at h0
                    cases h0
                    exact fin_ok hX rfl ⟨[], _, _, ⟨rfl, rfl⟩, rfl, rfl, rfl, rfl, by cbv; try simp⟩
                  · rw [hc13]
                    cbv
                    cases h1
                    try dsimp only at h0
                    cases h0
                    exact fin_ok hX rfl ⟨[], _, _, ⟨rfl, rfl⟩, rfl, rfl, rfl, rfl, by cbv; try simp⟩
                · rw [hc12]
                  cbv
                  obtain ⟨l66, hv, h0⟩ := bindS h0
                  refine call_is hO hX (fn_ref45_Ended hO hv) (by kernel_rfl) [0] rfl ⟨rfl, rfl, trivial⟩ rfl ?_
                  cbv
                  obtain ⟨⟨l67, b46⟩, hv, h0⟩ := bindS h0
                  try dsimp only at h0
                  refine call_is hO hX (fn_ref45_Tight hO hv) (by kernel_rfl) [4] rfl ⟨rfl, rfl, trivial⟩ rfl ?_
                  cbv
                  rcases condS h0 with ⟨hc14, h0⟩ | ⟨hc14, h0⟩
                  · rw [hc14]
                    cbv
                    obtain ⟨x155, h1, h0⟩ := bindS h0
                    rcases condS h1 with ⟨hc15, h1⟩ | ⟨hc15, h1⟩
                    · rw [hc15]
                      cbv
                      cases h1
                      try dsimp only at h0
                      cases h0
                      exact fin_ok hX rfl ⟨[], _, _, ⟨rfl, rfl⟩, rfl, rfl, rfl, rfl, by cbv; try simp⟩
                    · rw [hc15]
                      cbv
                      cases h1
                      try dsimp only at h0
                      cases h0
                      exact fin_ok hX rfl ⟨[], _, _, ⟨rfl, rfl⟩, rfl, rfl, rfl, rfl, by cbv; try simp⟩
                  · rw [hc14]
                    cbv
                    obtain ⟨x158, h1, h0⟩ := bindS h0
                    rcases condS h1 with ⟨hc16, h1⟩ | ⟨hc16, h1⟩
                    · rw [hc16]
                      cbv
                      obtain ⟨b47, hv, h1⟩ := bindS h1
                      refine call_is hO hX (fn_ref45_Holds hO hv) (by kernel_rfl) [0, 2] rfl ⟨rfl, rfl, rfl, rfl, trivial⟩ rfl ?_
                      cbv
                      rcases condS h1 with ⟨hc17, h1⟩ | ⟨hc17, h1⟩
                      · rw [hc17]
                        cbv
                        obtain ⟨hg18, h1⟩ := grdS h1
                        refine ⟨idx_of hO hg18, ?_⟩
                        obtain ⟨hg19, h1⟩ := grdS h1
                        refine ⟨kin_of hO hg19, ?_⟩
                        obtain ⟨b48, hv, h1⟩ := bindS h1
                        refine call_is hO hX (fn_slices_Equal hO hv) (by kernel_rfl) [2, 6] rfl ⟨rfl, rfl, rfl, rfl, trivial⟩ rfl ?_
                        cbv
                        cases h1
                        try dsimp only at h0
                        cases h0
                        exact fin_ok hX rfl ⟨[], _, _, ⟨rfl, rfl⟩, rfl, rfl, rfl, rfl, by cbv; try simp⟩
                      · rw [hc17]
                        cbv
                        cases h1
                        try dsimp only at h0
                        cases h0
                        exact fin_ok hX rfl ⟨[], _, _, ⟨rfl, rfl⟩, rfl, rfl, rfl, rfl, by cbv; try simp⟩
                    · rw [hc16]
                      cbv
                      cases h1
                      try dsimp only at h0
                      cases h0
                      exact fin_ok hX rfl ⟨[], _, _, ⟨rfl, rfl⟩, rfl, rfl, rfl, rfl, by cbv; try simp⟩
        · rw [hc7]
          cbv
          obtain ⟨b43, hv, h1⟩ := bindS h1
          refine call_is hO hX (fn_slices_ContainsFunc_3 hO hv) (by kernel_rfl) [3] rfl ⟨rfl, rfl, trivial⟩ rfl ?_
          cbv
          obtain ⟨e2, h2, h1⟩ := bindS h1
          rcases condS h2 with ⟨hc20, h2⟩ | ⟨hc20, h2⟩
          · rw [hc20]
            cbv
            obtain ⟨x144, h3, h2⟩ := bindS h2
            rcases condS h3 with ⟨hc21, h3⟩ | ⟨hc21, h3⟩
            · rw [hc21]
              cbv
              cases h3
              try dsimp only at h2
              replace h2 := condT h2 rfl
              cases h2
              try dsimp only at h1
              cases h1
              try dsimp only at h0
              cases h0
              exact fin_ok hX rfl ⟨[], _, _, ⟨rfl, rfl⟩, rfl, rfl, rfl, rfl, by cbv; try simp⟩
            · rw [hc21]
              cbv
              cases h3
              try dsimp only at h2
              rcases condS h2 with ⟨hc22, h2⟩ | ⟨hc22, h2⟩
              · rw [hc22]
                cbv
                cases h2
                try dsimp only at h1
                cases h1
                try dsimp only at h0
                cases h0
                exact fin_ok hX rfl ⟨[], _, _, ⟨rfl, rfl⟩, rfl, rfl, rfl, rfl, by cbv; try simp⟩
              · rw [hc22]
                cbv
                cases h2
                try dsimp only at h1
                cases h1
                try dsimp only at h0
                obtain ⟨x151, h1, h0⟩ := bindS h0
                rcases condS h1 with ⟨hc23, h1⟩ | ⟨hc23, h1⟩
                · rw [hc23]
                  cbv
                  cases h1
                  try dsimp only at h0
                  replace h0 := condT h0 rfl
                  obtain ⟨x153, h1, h0⟩ := bindS h0
                  rcases condS h1 with ⟨hc24, h1⟩ | ⟨hc24, h1⟩
                  · rw [hc24]
                    cbv
                    cases h1
                    try dsimp only at h0
                    cases h0
                    exact fin_ok hX rfl ⟨[], _, _, ⟨rfl, rfl⟩, rfl, rfl, rfl, rfl, by cbv; try simp⟩
                  · rw [hc24]
                    cbv
                    cases h1
                    try dsimp only at h0
                    cases h0
                    exact fin_ok hX rfl ⟨[], _, _, ⟨rfl, rfl⟩, rfl, rfl, rfl, rfl, by cbv; try simp⟩
                · rw [hc23]
                  cbv
                  cases h1
                  try dsimp only at h0
                  rcases condS h0 with ⟨hc25, h0⟩ | ⟨hc25, h0⟩
                  · rw [hc25]
                    cbv
                    obtain ⟨x153, h1, h0⟩ := bindS h0
                    rcases condS h1 with ⟨hc26, h1⟩ | ⟨hc26, h1⟩
                    · rw [hc26]
                      cbv
                      cases h1
                      try dsimp only at h0
                      cases h0
                      exact fin_ok hX rfl ⟨[], _, _, ⟨rfl, rfl⟩, rfl, rfl, rfl, rfl, by cbv; try simp⟩
                    · rw [hc26]
                      cbv
                      cases h1
                      try dsimp only at h0
                      cases h0
                      exact fin_ok hX rfl ⟨[], _, _, ⟨rfl, rfl⟩, rfl, rfl, rfl, rfl, by cbv; try simp⟩
                  · rw [hc25]
                    cbv
                    obtain ⟨l66, hv, h0⟩ := bindS h0
                    refine call_is hO hX (fn_ref45_Ended hO hv) (by kernel_rfl) [0] rfl ⟨rfl, rfl, trivial⟩ rfl ?_
                    cbv
                    obtain ⟨⟨l67, b46⟩, hv, h0⟩ := bindS h0
                    try dsimp only at h0
                    refine call_is hO hX (fn_ref45_Tight hO hv) (by kernel_rfl) [4] rfl ⟨rfl, rfl, trivial⟩ rfl ?_
                    cbv
                    rcases condS h0 with ⟨hc27, h0⟩ | ⟨hc27, h0⟩
                    · rw [hc27]
                      cbv
                      obtain ⟨x155, h1, h0⟩ := bindS h0
                      rcases condS h1 with ⟨hc28, h1⟩ | ⟨hc28, h1⟩
                      · rw [hc28]
                        cbv
                        cases h1
                        try dsimp only at h0
                        cases h0
                        exact fin_ok hX rfl ⟨[], _, _, ⟨rfl, rfl⟩, rfl, rfl, rfl, rfl, by cbv; try simp⟩
                      · rw [hc28]
                        cbv
                        cases h1
                        try dsimp only at h0
                        cases h0
                        exact fin_ok hX rfl ⟨[], _, _, ⟨rfl, rfl⟩, rfl, rfl, rfl, rfl, by cbv; try simp⟩
                    · rw [hc27]
                      cbv
                      obtain ⟨x158, h1, h0⟩ := bindS h0
                      rcases condS h1 with ⟨hc29, h1⟩ | ⟨hc29, h1⟩
                      · rw [hc29]
                        cbv
                        obtain ⟨b47, hv, h1⟩ := bindS h1
                        refine call_is hO hX (fn_ref45_Holds hO hv) (by kernel_rfl) [0, 2] rfl ⟨rfl, rfl, rfl, rfl, trivial⟩ rfl ?_
                        cbv
                        rcases condS h1 with ⟨hc30, h1⟩ | ⟨hc30, h1⟩
                        · rw [hc30]
                          cbv
                          obtain ⟨hg31, h1⟩ := grdS h1
                          refine ⟨idx_of hO hg31, ?_⟩
                          obtain ⟨hg32, h1⟩ := grdS h1
                          refine ⟨kin_of hO hg32, ?_⟩
                          obtain ⟨b48, hv, h1⟩ := bindS h1
                          refine call_is hO hX (fn_slices_Equal hO hv) (by kernel_rfl) [2, 6] rfl ⟨rfl, rfl, rfl, rfl, trivial⟩ rfl ?_
                          cbv
                          cases h1
                          try dsimp only at h0
                          cases h0
                          exact fin_ok hX rfl ⟨[], _, _, ⟨rfl, rfl⟩, rfl, rfl, rfl, rfl, by cbv; try simp⟩
                        · rw [hc30]
                          cbv
                          cases h1
                          try dsimp only at h0
                          cases h0
                          exact fin_ok hX rfl ⟨[], _, _, ⟨rfl, rfl⟩, rfl, rfl, rfl, rfl, by cbv; try simp⟩
                      · rw [hc29]
                        cbv
                        cases h1
                        try dsimp only at h0
                        cases h0
                        exact fin_ok hX rfl ⟨[], _, _, ⟨rfl, rfl⟩, rfl, rfl, rfl, rfl, by cbv; try simp⟩
          · rw [hc20]
            cbv
            obtain ⟨x148, h3, h2⟩ := bindS h2
            rcases condS h3 with ⟨hc33, h3⟩ | ⟨hc33, h3⟩
            · rw [hc33]
              cbv
              cases h3
              try dsimp only at h2
              replace h2 := condT h2 rfl
              cases h2
              try dsimp only at h1
              cases h1
              try dsimp only at h0
              cases h0
              exact fin_ok hX rfl ⟨[], _, _, ⟨rfl, rfl⟩, rfl, rfl, rfl, rfl, by cbv; try simp⟩
            · rw [hc33]
              cbv
              rcases condS h3 with ⟨hc34, h3⟩ | ⟨hc34, h3⟩
              · rw [hc34]
                cbv
                cases h3
                try dsimp only at h2
                replace h2 := condT h2 rfl
                cases h2
                try dsimp only at h1
                cases h1
                try dsimp only at h0
                cases h0
                exact fin_ok hX rfl ⟨[], _, _, ⟨rfl, rfl⟩, rfl, rfl, rfl, rfl, by cbv; try simp⟩
              · rw [hc34]
                cbv
                obtain ⟨b45, hv, h3⟩ := bindS h3
                refine call_is hO hX (fn_ref45_Holds hO hv) (by kernel_rfl) [0, 1] rfl ⟨rfl, rfl, rfl, rfl, trivial⟩ rfl ?_
                cbv
                cases h3
                try dsimp only at h2
                rcases condS h2 with ⟨hc35, h2⟩ | ⟨hc35, h2⟩
                · rw [hc35]
                  cbv
                  cases h2
                  try dsimp only at h1
                  cases h1
                  try dsimp only at h0
                  cases h0
                  exact fin_ok hX rfl ⟨[], _, _, ⟨rfl, rfl⟩, rfl, rfl, rfl, rfl, by cbv; try simp⟩
                · rw [hc35]
                  cbv
                  obtain ⟨e3, hi, h2⟩ := bindS h2
                  obtain ⟨I1, hI1, hi⟩ := loopS hi
                  refine loop1 tab_holds eqs_holds mixed [] hO hX I1 (fun y => [(7, .junk), (25, .junk), (28, .junk), (29, .junk), (31, .junk), (35, .junk), (36, .junk), (58, .junk), (61, .junk), (62, .junk), (67, .junk), (74, .junk), (106, .junk), (80, .c (.int .i64 y.2))]) (fun _ => []) (fun y => y.1) _ (by kernel_rfl) hi (by cbv; try simp) ?_
                  refine allp ?_
                  intro n1
                  intro x149 hi
                  cbv
                  rw [hI1] at hi
                  obtain ⟨n1, rfl, x1, h3, hi1⟩ := iterS hi
                  unfold m_law45_BoundsSchedules_L1 at h3
                  try dsimp only at h3
                  rcases condS h3 with ⟨hc36, h3⟩ | ⟨hc36, h3⟩
                  · rw [hc36]
                    cbv
                    obtain ⟨hg37, h3⟩ := grdS h3
                    refine ⟨idx_of hO hg37, ?_⟩
                    obtain ⟨hg38, h3⟩ := grdS h3
                    refine ⟨kin_of hO hg38, ?_⟩
                    obtain ⟨hg39, h3⟩ := grdS h3
                    refine ⟨idx_of hO hg39, ?_⟩
                    obtain ⟨hg40, h3⟩ := grdS h3
                    refine ⟨kin_of hO hg40, ?_⟩
                    obtain ⟨hg41, h3⟩ := grdS h3
                    refine ⟨idx_of hO hg41, ?_⟩
                    obtain ⟨hg42, h3⟩ := grdS h3
                    refine ⟨kin_of hO hg42, ?_⟩
                    obtain ⟨hg43, h3⟩ := grdS h3
                    refine ⟨inr_of hO hg43, ?_⟩
                    rcases condS h3 with ⟨hc44, h3⟩ | ⟨hc44, h3⟩
                    · rw [hc44]
                      cbv
                      cases h3
                      cases exitI hi1
                      try dsimp only at h2
                      cases h2
                      try dsimp only at h1
                      cases h1
                      try dsimp only at h0
                      cases h0
                      exact fin_ok hX rfl ⟨[], _, _, ⟨rfl, rfl⟩, rfl, rfl, rfl, rfl, by cbv; try simp⟩
                    · rw [hc44]
                      cbv
                      obtain ⟨hg45, h3⟩ := grdS h3
                      refine ⟨inr_of hO hg45, ?_⟩
                      cases h3
                      exact ⟨_, [0, 1, 2, 3], nextI hI1 hi1, by cbv; try simp, by first | exact Nat.lt_succ_self _ | omega⟩
                  · rw [hc36]
                    cbv
                    cases h3
                    cases exitI hi1
                    try dsimp only at h2
                    cases h2
                    try dsimp only at h1
                    cases h1
                    try dsimp only at h0
                    obtain ⟨x151, h1, h0⟩ := bindS h0
                    rcases condS h1 with ⟨hc46, h1⟩ | ⟨hc46, h1⟩
                    · rw [hc46]
                      cbv
                      cases h1
                      try dsimp only at h0
                      replace h0 := condT h0 rfl
                      obtain ⟨x153, h1, h0⟩ := bindS h0
                      rcases condS h1 with ⟨hc47, h1⟩ | ⟨hc47, h1⟩
                      · rw [hc47]
                        cbv
                        cases h1
                        try dsimp only at h0
                        cases h0
                        exact fin_ok hX rfl ⟨[], _, _, ⟨rfl, rfl⟩, rfl, rfl, rfl, rfl, by cbv; try simp⟩
                      · rw [hc47]
                        cbv
                        cases h1
                        try dsimp only at h0
                        cases h0
                        exact fin_ok hX rfl ⟨[], _, _, ⟨rfl, rfl⟩, rfl, rfl, rfl, rfl, by cbv; try simp⟩
                    · rw [hc46]
                      cbv
                      cases h1
                      try dsimp only at h0
                      rcases condS h0 with ⟨hc48, h0⟩ | ⟨hc48, h0⟩
                      · rw [hc48]
                        cbv
                        obtain ⟨x153, h1, h0⟩ := bindS h0
                        rcases condS h1 with ⟨hc49, h1⟩ | ⟨hc49, h1⟩
                        · rw [hc49]
                          cbv
                          cases h1
                          try dsimp only at h0
                          cases h0
                          exact fin_ok hX rfl ⟨[], _, _, ⟨rfl, rfl⟩, rfl, rfl, rfl, rfl, by cbv; try simp⟩
                        · rw [hc49]
                          cbv
                          cases h1
                          try dsimp only at h0
                          cases h0
                          exact fin_ok hX rfl ⟨[], _, _, ⟨rfl, rfl⟩, rfl, rfl, rfl, rfl, by cbv; try simp⟩
                      · rw [hc48]
                        cbv
                        obtain ⟨l66, hv, h0⟩ := bindS h0
                        refine call_is hO hX (fn_ref45_Ended hO hv) (by kernel_rfl) [0] rfl ⟨rfl, rfl, trivial⟩ rfl ?_
                        cbv
                        obtain ⟨⟨l67, b46⟩, hv, h0⟩ := bindS h0
                        try dsimp only at h0
                        refine call_is hO hX (fn_ref45_Tight hO hv) (by kernel_rfl) [4] rfl ⟨rfl, rfl, trivial⟩ rfl ?_
                        cbv
                        rcases condS h0 with ⟨hc50, h0⟩ | ⟨hc50, h0⟩
                        · rw [hc50]
                          cbv
                          obtain ⟨x155, h1, h0⟩ := bindS h0
                          rcases condS h1 with ⟨hc51, h1⟩ | ⟨hc51, h1⟩
                          · rw [hc51]
                            cbv
                            cases h1
                            try dsimp only at h0
                            cases h0
                            exact fin_ok hX rfl ⟨[], _, _, ⟨rfl, rfl⟩, rfl, rfl, rfl, rfl, by cbv; try simp⟩
                          · rw [hc51]
                            cbv
                            cases h1
                            try dsimp only at h0
                            cases h0
                            exact fin_ok hX rfl ⟨[], _, _, ⟨rfl, rfl⟩, rfl, rfl, rfl, rfl, by cbv; try simp⟩
                        · rw [hc50]
                          cbv
                          obtain ⟨x158, h1, h0⟩ := bindS h0
                          rcases condS h1 with ⟨hc52, h1⟩ | ⟨hc52, h1⟩
                          · rw [hc52]
                            cbv
                            obtain ⟨b47, hv, h1⟩ := bindS h1
                            refine call_is hO hX (fn_ref45_Holds hO hv) (by kernel_rfl) [0, 2] rfl ⟨rfl, rfl, rfl, rfl, trivial⟩ rfl ?_
                            cbv
                            rcases condS h1 with ⟨hc53, h1⟩ | ⟨hc53, h1⟩
                            · rw [hc53]
                              cbv
                              obtain ⟨hg54, h1⟩ := grdS h1
                              refine ⟨idx_of hO hg54, ?_⟩
                              obtain ⟨hg55, h1⟩ := grdS h1
                              refine ⟨kin_of hO hg55, ?_⟩
                              obtain ⟨b48, hv, h1⟩ := bindS h1
                              refine call_is hO hX (fn_slices_Equal hO hv) (by kernel_rfl) [2, 6] rfl ⟨rfl, rfl, rfl, rfl, trivial⟩ rfl ?_
                              cbv
                              cases h1
                              try dsimp only at h0
                              cases h0
                              exact fin_ok hX rfl ⟨[], _, _, ⟨rfl, rfl⟩, rfl, rfl, rfl, rfl, by cbv; try simp⟩
                            · rw [hc53]
                              cbv
                              cases h1
                              try dsimp only at h0
                              cases h0
                              exact fin_ok hX rfl ⟨[], _, _, ⟨rfl, rfl⟩, rfl, rfl, rfl, rfl, by cbv; try simp⟩
                          · rw [hc52]
                            cbv
                            cases h1
                            try dsimp only at h0
                            cases h0
                            exact fin_ok hX rfl ⟨[], _, _, ⟨rfl, rfl⟩, rfl, rfl, rfl, rfl, by cbv; try simp⟩
end Go.Proofs.Ytegmjohhgedakaa
