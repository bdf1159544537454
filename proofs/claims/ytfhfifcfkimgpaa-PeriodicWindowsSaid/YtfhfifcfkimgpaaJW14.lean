/-
  The code does what its models say (printed by lift.py).
-/
import Derived.Test.YtfhfifcfkimgpaaHM
import Derived.Test.YtfhfifcfkimgpaaManW2
import Derived.Test.YtfhfifcfkimgpaaJW6
import Derived.Test.YtfhfifcfkimgpaaJW8
namespace Go.Proofs.Ytfhfifcfkimgpaa
open Go.RowKit
set_option maxRecDepth 100000

set_option maxHeartbeats 40000000 in
theorem fn_ref13_Runs {O0 : Ops} (hO0 : O0 = std) {l_1 : List (Int × Int)} {r1 : Bool} (h : m_ref13_Runs O0 l_1 = some r1) :
    Fn Try.prog 71 [.c (.sl 0)] [.arr false .i2 l_1] (fun v c => v = .c (.bool r1) ∧ c = []) := by
  refine fn_run tab_holds eqs_holds mixed [(4, (.seg 1 [0, 1, 2, 3] (.seg 2 [4] (.seg 1 [5, 6, 7, 8, 9, 10, 11, 12, 13, 14, 15, 16, 17, 18, 19, 20, 21, 22, 23] .fin))), [])] Try.func71 (by kernel_rfl) (by kernel_rfl) (Nat.le_of_ble_eq_true rfl) ?_
  intro O X hO hX
  rw [hO0, ← hO] at h
  unfold m_ref13_Runs at h
  have h0 := h; clear h
  cbv
  obtain ⟨e1, hi, h0⟩ := bindS h0
  obtain ⟨I1, hI1, hi⟩ := loopS hi
  refine loop1 tab_holds eqs_holds mixed [(4, (.seg 1 [0, 1, 2, 3] (.seg 2 [4] (.seg 1 [5, 6, 7, 8, 9, 10, 11, 12, 13, 14, 15, 16, 17, 18, 19, 20, 21, 22, 23] .fin))), [])] hO hX I1 (fun y => [(3, .c (.int .i64 y.2))]) (fun _ => []) (fun y => y.1) _ (by kernel_rfl) hi (by cbv; try simp) ?_
  refine allp ?_
  intro n1
  intro i33 hi
  cbv
  rw [hI1] at hi
  obtain ⟨n1, rfl, x1, h1, hi1⟩ := iterS hi
  unfold m_ref13_Runs_L1 at h1
  try dsimp only at h1
  rcases condS h1 with ⟨hc1, h1⟩ | ⟨hc1, h1⟩
  · as_aux_lemma =>
    rw [hc1]
    cbv
    obtain ⟨x177, h2, h1⟩ := bindS h1
    obtain ⟨hg2, h2⟩ := grdS h2
    refine ⟨idx_of hO hg2, ?_⟩
    obtain ⟨hg3, h2⟩ := grdS h2
    refine ⟨kin_of hO hg3, ?_⟩
    obtain ⟨b45, hv, h2⟩ := bindS h2
    refine call_is hO hX (fn_ref13_Span hO hv) (by kernel_rfl) [] rfl trivial rfl ?_
    cbv
    rcases condS h2 with ⟨hc4, h2⟩ | ⟨hc4, h2⟩
    · rw [hc4]
      cbv
      cases h2
      try dsimp only at h1
      replace h1 := condT h1 rfl
      cases h1
      cases exitI hi1
      try dsimp only at h0
      cases h0
      exact fin_ok hX rfl ⟨[], _, _, ⟨rfl, rfl⟩, rfl, rfl, rfl, rfl, by cbv; try simp⟩
    · rw [hc4]
      cbv
      rcases condS h2 with ⟨hc5, h2⟩ | ⟨hc5, h2⟩
      · rw [hc5]
        cbv
        obtain ⟨hg6, h2⟩ := grdS h2
        refine ⟨inr_of hO hg6, ?_⟩
        obtain ⟨hg7, h2⟩ := grdS h2
        refine ⟨idx_of hO hg7, ?_⟩
        obtain ⟨hg8, h2⟩ := grdS h2
        refine ⟨kin_of hO hg8, ?_⟩
        cases h2
        try dsimp only at h1
        refine ⟨idx_of hO hg2, ?_⟩
        refine ⟨kin_of hO hg3, ?_⟩
        rcases condS h1 with ⟨hc9, h1⟩ | ⟨hc9, h1⟩
        · rw [hc9]
          cbv
          cases h1
          cases exitI hi1
          try dsimp only at h0
          cases h0
          exact fin_ok hX rfl ⟨[], _, _, ⟨rfl, rfl⟩, rfl, rfl, rfl, rfl, by cbv; try simp⟩
        · rw [hc9]
          cbv
          obtain ⟨hg10, h1⟩ := grdS h1
          refine ⟨inr_of hO hg10, ?_⟩
          cases h1
          exact ⟨_, [0], nextI hI1 hi1, by cbv; try simp, by first | exact Nat.lt_succ_self _ | omega⟩
      · rw [hc5]
        cbv
        cases h2
        try dsimp only at h1
        replace h1 := condF h1 rfl
        obtain ⟨hg11, h1⟩ := grdS h1
        refine ⟨inr_of hO hg11, ?_⟩
        cases h1
        exact ⟨_, [0], nextI hI1 hi1, by cbv; try simp, by first | exact Nat.lt_succ_self _ | omega⟩
  · rw [hc1]
    cbv
    cases h1
    cases exitI hi1
    try dsimp only at h0
    cases h0
    exact fin_ok hX rfl ⟨[], _, _, ⟨rfl, rfl⟩, rfl, rfl, rfl, rfl, by cbv; try simp⟩
set_option maxHeartbeats 40000000 in
theorem fn_ref13_Valid {O0 : Ops} (hO0 : O0 = std) {p_1 : Int} {p_2 : List (Int × Int)} {r1 : Bool} (h : m_ref13_Valid O0 p_1 p_2 = some r1) :
    Fn Try.prog 34 [.agg [.int .i64 p_1, .sl 0]] [.arr false .i2 p_2] (fun v c => v = .c (.bool r1) ∧ c = []) := by
  refine fn_run tab_holds eqs_holds mixed [(3, (.seg 1 [0, 1, 2, 3, 4, 5, 6, 7, 8, 9, 10, 11, 12, 13, 14, 15, 16, 17, 18, 19, 20, 21, 22, 23, 24, 25] .fin), []), (5, (.seg 1 [0, 1, 2, 3, 6, 7] (.seg 2 [4] (.seg 1 [5, 8, 9] .fin))), [])] Try.func34 (by kernel_rfl) (by kernel_rfl) (Nat.le_of_ble_eq_true rfl) ?_
  intro O X hO hX
  rw [hO0, ← hO] at h
  unfold m_ref13_Valid at h
  have h0 := h; clear h
  cbv
  obtain ⟨x179, h1, h0⟩ := bindS h0
  rcases condS h1 with ⟨hc1, h1⟩ | ⟨hc1, h1⟩
  · rw [hc1]
    cbv
    cases h1
    try dsimp only at h0
    replace h0 := condT h0 rfl
    cases h0
    exact fin_ok hX rfl ⟨[], _, _, ⟨rfl, rfl⟩, rfl, rfl, rfl, rfl, by cbv; try simp⟩
  · as_aux_lemma =>
    rw [hc1]
    cbv
    rcases condS h1 with ⟨hc2, h1⟩ | ⟨hc2, h1⟩
    · rw [hc2]
      cbv
      cases h1
      try dsimp only at h0
      replace h0 := condT h0 rfl
      cases h0
      exact fin_ok hX rfl ⟨[], _, _, ⟨rfl, rfl⟩, rfl, rfl, rfl, rfl, by cbv; try simp⟩
    · as_aux_lemma =>
      rw [hc2]
      cbv
      rcases condS h1 with ⟨hc3, h1⟩ | ⟨hc3, h1⟩
      · rw [hc3]
        cbv
        cases h1
        try dsimp only at h0
        replace h0 := condT h0 rfl
        cases h0
        exact fin_ok hX rfl ⟨[], _, _, ⟨rfl, rfl⟩, rfl, rfl, rfl, rfl, by cbv; try simp⟩
      · as_aux_lemma =>
        rw [hc3]
        cbv
        obtain ⟨b46, hv, h1⟩ := bindS h1
        refine call_is hO hX (fn_ref13_Runs hO hv) (by kernel_rfl) [0] rfl ⟨rfl, rfl, trivial⟩ rfl ?_
        cbv
        cases h1
        try dsimp only at h0
        rcases condS h0 with ⟨hc4, h0⟩ | ⟨hc4, h0⟩
        · rw [hc4]
          cbv
          cases h0
          exact fin_ok hX rfl ⟨[], _, _, ⟨rfl, rfl⟩, rfl, rfl, rfl, rfl, by cbv; try simp⟩
        · as_aux_lemma =>
          rw [hc4]
          cbv
          obtain ⟨x182, h1, h0⟩ := bindS h0
          rcases condS h1 with ⟨hc5, h1⟩ | ⟨hc5, h1⟩
          · as_aux_lemma =>
            rw [hc5]
            cbv
            rcases condS h1 with ⟨hc6, h1⟩ | ⟨hc6, h1⟩
            · rw [hc6]
              cbv
              obtain ⟨hg7, h1⟩ := grdS h1
              refine ⟨idx_of hO hg7, ?_⟩
              obtain ⟨hg8, h1⟩ := grdS h1
              refine ⟨kin_of hO hg8, ?_⟩
              cases h1
              try dsimp only at h0
              replace h0 := condT h0 rfl
              cases h0
              exact fin_ok hX rfl ⟨[], _, _, ⟨rfl, rfl⟩, rfl, rfl, rfl, rfl, by cbv; try simp⟩
            · rw [hc6]
              cbv
              obtain ⟨hg9, h1⟩ := grdS h1
              refine ⟨idx_of hO hg9, ?_⟩
              obtain ⟨hg10, h1⟩ := grdS h1
              refine ⟨kin_of hO hg10, ?_⟩
              obtain ⟨hg11, h1⟩ := grdS h1
              refine ⟨inr_of hO hg11, ?_⟩
              obtain ⟨hg12, h1⟩ := grdS h1
              refine ⟨idx_of hO hg12, ?_⟩
              obtain ⟨hg13, h1⟩ := grdS h1
              refine ⟨kin_of hO hg13, ?_⟩
              cases h1
              try dsimp only at h0
              rcases condS h0 with ⟨hc14, h0⟩ | ⟨hc14, h0⟩
              · rw [hc14]
                cbv
                cases h0
                exact fin_ok hX rfl ⟨[], _, _, ⟨rfl, rfl⟩, rfl, rfl, rfl, rfl, by cbv; try simp⟩
              · rw [hc14]
                cbv
                obtain ⟨⟨n52, l130⟩, hv, h0⟩ := bindS h0
                try dsimp only at h0
                refine call_is hO hX (fn_ref13_Least hO hv) (by kernel_rfl) [0] rfl ⟨rfl, rfl, trivial⟩ rfl ?_
                cbv
                cases h0
                exact fin_ok hX rfl ⟨[], _, _, ⟨rfl, rfl⟩, rfl, rfl, rfl, rfl, by cbv; try simp⟩
          · rw [hc5]
            cbv
            cases h1
            try dsimp only at h0
            replace h0 := condF h0 rfl
            obtain ⟨⟨n52, l130⟩, hv, h0⟩ := bindS h0
            try dsimp only at h0
            refine call_is hO hX (fn_ref13_Least hO hv) (by kernel_rfl) [0] rfl ⟨rfl, rfl, trivial⟩ rfl ?_
            cbv
            cases h0
            exact fin_ok hX rfl ⟨[], _, _, ⟨rfl, rfl⟩, rfl, rfl, rfl, rfl, by cbv; try simp⟩
end Go.Proofs.Ytfhfifcfkimgpaa
