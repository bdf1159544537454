/-
  The code does what its models say (printed by lift.py).
-/
import Derived.Test.YtkdffpncpikdmaaGreatZM
import Derived.Test.YtkdffpncpikdmaaGreatSrtZ
import Derived.Test.YtkdffpncpikdmaaGreatZW7
import Derived.Test.YtkdffpncpikdmaaGreatZW8
namespace Go.Proofs.YtkdffpncpikdmaaGreat
open Go.RowKit
set_option maxRecDepth 100000

set_option maxHeartbeats 40000000 in
theorem fn_ref35_mix {O0 : Ops} (hO0 : O0 = std) {kind_1 : Int} {a_1 : List (Int × Int)} {b_1 : List (Int × Int)} {r1 : List (Int × Int)} (h : m_ref35_mix O0 kind_1 a_1 b_1 = some r1) :
    Fn Tryz.prog 33 [.c (.int .i64 kind_1), .c (.sl 0), .c (.sl 1)] [.arr false .i2 a_1, .arr false .i2 b_1] (fun v c => v = .c (.sl 2) ∧ c = [.own 32 .i2 r1]) := by
  refine fn_run tab_holds eqs_holds mixed [(5, (.seg 1 [0, 1, 2, 3, 4, 5, 7, 8, 9, 10, 11] (.seg 2 [6] (.seg 2 [12] (.seg 1 [13] .fin)))), []), (9, (.seg 1 [0, 1, 2, 3, 4, 5, 7, 8, 9, 10, 11] (.seg 2 [6] (.seg 2 [12] (.seg 1 [13] .fin)))), []), (14, (.seg 1 [0, 1, 2, 3, 4, 6, 7, 8, 9, 10] (.seg 2 [5] (.seg 2 [11] (.seg 1 [12, 13] .fin)))), []), (17, (.seg 1 [0, 1, 2, 3, 4, 5, 6, 7, 8, 9, 10, 11, 12, 13, 14] .fin), []), (19, (.seg 1 [0, 1, 2, 3, 4, 5, 6, 7, 8, 9, 10] (.seg 2 [11] .fin)), [12, 13])] Tryz.func33 (by kernel_rfl) (by kernel_rfl) (Nat.le_of_ble_eq_true rfl) ?_
  intro O X hO hX
  rw [hO0, ← hO] at h
  unfold m_ref35_mix at h
  have h0 := h; clear h
  cbv
  obtain ⟨l141, hi, h0⟩ := bindS h0
  obtain ⟨I1, hI1, hi⟩ := loopS hi
  refine loop1 tab_holds eqs_holds mixed [(5, (.seg 1 [0, 1, 2, 3, 4, 5, 7, 8, 9, 10, 11] (.seg 2 [6] (.seg 2 [12] (.seg 1 [13] .fin)))), []), (9, (.seg 1 [0, 1, 2, 3, 4, 5, 7, 8, 9, 10, 11] (.seg 2 [6] (.seg 2 [12] (.seg 1 [13] .fin)))), []), (14, (.seg 1 [0, 1, 2, 3, 4, 6, 7, 8, 9, 10] (.seg 2 [5] (.seg 2 [11] (.seg 1 [12, 13] .fin)))), []), (17, (.seg 1 [0, 1, 2, 3, 4, 5, 6, 7, 8, 9, 10, 11, 12, 13, 14] .fin), []), (19, (.seg 1 [0, 1, 2, 3, 4, 5, 6, 7, 8, 9, 10] (.seg 2 [11] .fin)), [12, 13])] hO hX I1 (fun y => [(6, .junk), (7, .c (.sl 3)), (8, .c (.int .i64 y.2.1))]) (fun y => [(3, .own 3 .i1 y.2.2)]) (fun y => y.1) _ (by kernel_rfl) hi (by cbv; try simp) ?_
  refine allp ?_
  intro n1
  refine allp ?_
  intro i43
  intro l138 hi
  cbv
  rw [hI1] at hi
  obtain ⟨n1, rfl, x1, h1, hi1⟩ := iterS hi
  unfold m_ref35_mix_L1 at h1
  try dsimp only at h1
  rcases condS h1 with ⟨hc1, h1⟩ | ⟨hc1, h1⟩
  · rw [hc1]
    cbv
    obtain ⟨hg2, h1⟩ := grdS h1
    refine ⟨idx_of hO hg2, ?_⟩
    obtain ⟨hg3, h1⟩ := grdS h1
    refine ⟨kin_of hO hg3, ?_⟩
    refine ⟨idx_of hO hg2, ?_⟩
    refine ⟨kin_of hO hg3, ?_⟩
    obtain ⟨l139, hv, h1⟩ := bindS h1
    refine call_is hO hX (fn_ref35_put hO hv) (by kernel_rfl) [3] rfl ⟨rfl, rfl, trivial⟩ rfl ?_
    cbv
    obtain ⟨l140, hv, h1⟩ := bindS h1
    refine call_is hO hX (fn_ref35_put hO hv) (by kernel_rfl) [4] rfl ⟨rfl, rfl, trivial⟩ rfl ?_
    cbv
    obtain ⟨hg4, h1⟩ := grdS h1
    refine ⟨inr_of hO hg4, ?_⟩
    cases h1
    exact ⟨_, [0, 1, 2, 5], nextI hI1 hi1, by cbv; try simp, by first | exact Nat.lt_succ_self _ | omega⟩
  · as_aux_lemma =>
    rw [hc1]
    cbv
    cases h1
    cases exitI hi1
    try dsimp only at h0
    obtain ⟨l147, hi, h0⟩ := bindS h0
    obtain ⟨I2, hI2, hi⟩ := loopS hi
    refine loop1 tab_holds eqs_holds mixed [(5, (.seg 1 [0, 1, 2, 3, 4, 5, 7, 8, 9, 10, 11] (.seg 2 [6] (.seg 2 [12] (.seg 1 [13] .fin)))), []), (9, (.seg 1 [0, 1, 2, 3, 4, 5, 7, 8, 9, 10, 11] (.seg 2 [6] (.seg 2 [12] (.seg 1 [13] .fin)))), []), (14, (.seg 1 [0, 1, 2, 3, 4, 6, 7, 8, 9, 10] (.seg 2 [5] (.seg 2 [11] (.seg 1 [12, 13] .fin)))), []), (17, (.seg 1 [0, 1, 2, 3, 4, 5, 6, 7, 8, 9, 10, 11, 12, 13, 14] .fin), []), (19, (.seg 1 [0, 1, 2, 3, 4, 5, 6, 7, 8, 9, 10] (.seg 2 [11] .fin)), [12, 13])] hO hX I2 (fun y => [(7, .c (.sl 3)), (9, .c (.int .i64 y.2.1))]) (fun y => [(3, .own 3 .i1 y.2.2)]) (fun y => y.1) _ (by kernel_rfl) hi (by cbv; try simp) ?_
    refine allp ?_
    intro n2
    refine allp ?_
    intro i45
    intro l144 hi
    cbv
    rw [hI2] at hi
    obtain ⟨n2, rfl, x2, h1, hi2⟩ := iterS hi
    unfold m_ref35_mix_L2 at h1
    try dsimp only at h1
    rcases condS h1 with ⟨hc5, h1⟩ | ⟨hc5, h1⟩
    · rw [hc5]
      cbv
      obtain ⟨hg6, h1⟩ := grdS h1
      refine ⟨idx_of hO hg6, ?_⟩
      obtain ⟨hg7, h1⟩ := grdS h1
      refine ⟨kin_of hO hg7, ?_⟩
      refine ⟨idx_of hO hg6, ?_⟩
      refine ⟨kin_of hO hg7, ?_⟩
      obtain ⟨l145, hv, h1⟩ := bindS h1
      refine call_is hO hX (fn_ref35_put hO hv) (by kernel_rfl) [3] rfl ⟨rfl, rfl, trivial⟩ rfl ?_
      cbv
      obtain ⟨l146, hv, h1⟩ := bindS h1
      refine call_is hO hX (fn_ref35_put hO hv) (by kernel_rfl) [4] rfl ⟨rfl, rfl, trivial⟩ rfl ?_
      cbv
      obtain ⟨hg8, h1⟩ := grdS h1
      refine ⟨inr_of hO hg8, ?_⟩
      cases h1
      exact ⟨_, [0, 1, 2, 5], nextI hI2 hi2, by cbv; try simp, by first | exact Nat.lt_succ_self _ | omega⟩
    · as_aux_lemma =>
      rw [hc5]
      cbv
      cases h1
      cases exitI hi2
      try dsimp only at h0
      obtain ⟨l157, hi, h0⟩ := bindS h0
      obtain ⟨I3, hI3, hi⟩ := loopS hi
      refine loop1 tab_holds eqs_holds mixed [(5, (.seg 1 [0, 1, 2, 3, 4, 5, 7, 8, 9, 10, 11] (.seg 2 [6] (.seg 2 [12] (.seg 1 [13] .fin)))), []), (9, (.seg 1 [0, 1, 2, 3, 4, 5, 7, 8, 9, 10, 11] (.seg 2 [6] (.seg 2 [12] (.seg 1 [13] .fin)))), []), (14, (.seg 1 [0, 1, 2, 3, 4, 6, 7, 8, 9, 10] (.seg 2 [5] (.seg 2 [11] (.seg 1 [12, 13] .fin)))), []), (17, (.seg 1 [0, 1, 2, 3, 4, 5, 6, 7, 8, 9, 10, 11, 12, 13, 14] .fin), []), (19, (.seg 1 [0, 1, 2, 3, 4, 5, 6, 7, 8, 9, 10] (.seg 2 [11] .fin)), [12, 13])] hO hX I3 (fun y => [(10, .c (.sl 4)), (11, .c (.int .i64 y.2.1))]) (fun y => [(4, .own 32 .i2 y.2.2)]) (fun y => y.1) _ (by kernel_rfl) hi (by cbv; try simp) ?_
      refine allp ?_
      intro n3
      refine allp ?_
      intro i47
      intro l152 hi
      cbv
      rw [hI3] at hi
      obtain ⟨n3, rfl, x3, h1, hi3⟩ := iterS hi
      unfold m_ref35_mix_L3 at h1
      try dsimp only at h1
      obtain ⟨hg9, h1⟩ := grdS h1
      refine ⟨inr_of hO hg9, ?_⟩
      rcases condS h1 with ⟨hc10, h1⟩ | ⟨hc10, h1⟩
      · as_aux_lemma =>
        rw [hc10]
        cbv
        obtain ⟨hg11, h1⟩ := grdS h1
        refine ⟨idx_of hO hg11, ?_⟩
        obtain ⟨hg12, h1⟩ := grdS h1
        refine ⟨kin_of hO hg12, ?_⟩
        refine ⟨idx_of hO hg11, ?_⟩
        refine ⟨kin_of hO hg12, ?_⟩
        obtain ⟨b52, hv, h1⟩ := bindS h1
        refine call_is hO hX (fn_ref35_has hO hv) (by kernel_rfl) [0] rfl ⟨rfl, rfl, trivial⟩ rfl ?_
        cbv
        obtain ⟨b53, hv, h1⟩ := bindS h1
        refine call_is hO hX (fn_ref35_has hO hv) (by kernel_rfl) [1] rfl ⟨rfl, rfl, trivial⟩ rfl ?_
        cbv
        obtain ⟨x177, h2, h1⟩ := bindS h1
        rcases condS h2 with ⟨hc13, h2⟩ | ⟨hc13, h2⟩
        · as_aux_lemma =>
          rw [hc13]
          cbv
          rcases condS h2 with ⟨hc14, h2⟩ | ⟨hc14, h2⟩
          · as_aux_lemma =>
            rw [hc14]
            cbv
            cases h2
            try dsimp only at h1
            obtain ⟨l156, h2, h1⟩ := bindS h1
            replace h2 := condT h2 rfl
            obtain ⟨x179, h3, h2⟩ := bindS h2
            rcases condS h3 with ⟨hc15, h3⟩ | ⟨hc15, h3⟩
            · as_aux_lemma =>
              rw [hc15]
              cbv
              obtain ⟨hg16, h3⟩ := grdS h3
              refine ⟨inr_of hO hg16, ?_⟩
              obtain ⟨hg17, h3⟩ := grdS h3
              refine ⟨idx_of hO hg17, ?_⟩
              obtain ⟨hg18, h3⟩ := grdS h3
              refine ⟨kin_of hO hg18, ?_⟩
              cases h3
              try dsimp only at h2
              obtain ⟨l154, h3, h2⟩ := bindS h2
              refine ⟨idx_of hO hg11, ?_⟩
              refine ⟨kin_of hO hg12, ?_⟩
              rcases condS h3 with ⟨hc19, h3⟩ | ⟨hc19, h3⟩
              · rw [hc19]
                cbv
                obtain ⟨hg20, h3⟩ := grdS h3
                refine ⟨inr_of hO hg20, ?_⟩
                refine ⟨inr_of hO hg9, ?_⟩
                obtain ⟨hg21, h3⟩ := grdS h3
                refine ⟨idx_of hO hg21, ?_⟩
                obtain ⟨hg22, h3⟩ := grdS h3
                refine ⟨kin_of hO hg22, ?_⟩
                obtain ⟨hg23, h3⟩ := grdS h3
                refine ⟨idx_of hO hg23, ?_⟩
                obtain ⟨hg24, h3⟩ := grdS h3
                refine ⟨kin_of hO hg24, ?_⟩
                cases h3
                try dsimp only at h2
                cases h2
                try dsimp only at h1
                refine ⟨inr_of hO hg9, ?_⟩
                cases h1
                exact ⟨_, [0, 1, 2, 3, 4], nextI hI3 hi3, by cbv; try simp, by first | exact Nat.lt_succ_self _ | omega⟩
              · rw [hc19]
                cbv
                refine ⟨idx_of hO hg11, ?_⟩
                refine ⟨kin_of hO hg12, ?_⟩
                refine ⟨inr_of hO hg9, ?_⟩
                obtain ⟨hg25, h3⟩ := grdS h3
                refine ⟨idx_of hO hg25, ?_⟩
                obtain ⟨hg26, h3⟩ := grdS h3
                refine ⟨kin_of hO hg26, ?_⟩
                obtain ⟨hg27, h3⟩ := grdS h3
                refine ⟨room_of hO hg27, ?_⟩
                obtain ⟨hg28, h3⟩ := grdS h3
                refine ⟨room_of hO hg28, ?_⟩
                cases h3
                try dsimp only at h2
                cases h2
                try dsimp only at h1
                refine ⟨inr_of hO hg9, ?_⟩
                cases h1
                exact ⟨_, [0, 1, 2, 3, 6], nextI hI3 hi3, by cbv; try simp, by first | exact Nat.lt_succ_self _ | omega⟩
            · rw [hc15]
              cbv
              cases h3
              try dsimp only at h2
              obtain ⟨l154, h3, h2⟩ := bindS h2
              replace h3 := condF h3 rfl
              refine ⟨idx_of hO hg11, ?_⟩
              refine ⟨kin_of hO hg12, ?_⟩
              refine ⟨inr_of hO hg9, ?_⟩
              obtain ⟨hg29, h3⟩ := grdS h3
              refine ⟨idx_of hO hg29, ?_⟩
              obtain ⟨hg30, h3⟩ := grdS h3
              refine ⟨kin_of hO hg30, ?_⟩
              obtain ⟨hg31, h3⟩ := grdS h3
              refine ⟨room_of hO hg31, ?_⟩
              obtain ⟨hg32, h3⟩ := grdS h3
              refine ⟨room_of hO hg32, ?_⟩
              cases h3
              try dsimp only at h2
              cases h2
              try dsimp only at h1
              refine ⟨inr_of hO hg9, ?_⟩
              cases h1
              exact ⟨_, [0, 1, 2, 3, 6], nextI hI3 hi3, by cbv; try simp, by first | exact Nat.lt_succ_self _ | omega⟩
          · as_aux_lemma =>
            rw [hc14]
            cbv
            rcases condS h2 with ⟨hc33, h2⟩ | ⟨hc33, h2⟩
            · as_aux_lemma =>
              rw [hc33]
              cbv
              cases h2
              try dsimp only at h1
              obtain ⟨l156, h2, h1⟩ := bindS h1
              replace h2 := condT h2 rfl
              obtain ⟨x179, h3, h2⟩ := bindS h2
              rcases condS h3 with ⟨hc34, h3⟩ | ⟨hc34, h3⟩
              · as_aux_lemma =>
                rw [hc34]
                cbv
                obtain ⟨hg35, h3⟩ := grdS h3
                refine ⟨inr_of hO hg35, ?_⟩
                obtain ⟨hg36, h3⟩ := grdS h3
                refine ⟨idx_of hO hg36, ?_⟩
                obtain ⟨hg37, h3⟩ := grdS h3
                refine ⟨kin_of hO hg37, ?_⟩
                cases h3
                try dsimp only at h2
                obtain ⟨l154, h3, h2⟩ := bindS h2
                refine ⟨idx_of hO hg11, ?_⟩
                refine ⟨kin_of hO hg12, ?_⟩
                rcases condS h3 with ⟨hc38, h3⟩ | ⟨hc38, h3⟩
                · rw [hc38]
                  cbv
                  obtain ⟨hg39, h3⟩ := grdS h3
                  refine ⟨inr_of hO hg39, ?_⟩
                  refine ⟨inr_of hO hg9, ?_⟩
                  obtain ⟨hg40, h3⟩ := grdS h3
                  refine ⟨idx_of hO hg40, ?_⟩
                  obtain ⟨hg41, h3⟩ := grdS h3
                  refine ⟨kin_of hO hg41, ?_⟩
                  obtain ⟨hg42, h3⟩ := grdS h3
                  refine ⟨idx_of hO hg42, ?_⟩
                  obtain ⟨hg43, h3⟩ := grdS h3
                  refine ⟨kin_of hO hg43, ?_⟩
                  cases h3
                  try dsimp only at h2
                  cases h2
                  try dsimp only at h1
                  refine ⟨inr_of hO hg9, ?_⟩
                  cases h1
                  exact ⟨_, [0, 1, 2, 3, 4], nextI hI3 hi3, by cbv; try simp, by first | exact Nat.lt_succ_self _ | omega⟩
                · rw [hc38]
                  cbv
                  refine ⟨idx_of hO hg11, ?_⟩
                  refine ⟨kin_of hO hg12, ?_⟩
                  refine ⟨inr_of hO hg9, ?_⟩
                  obtain ⟨hg44, h3⟩ := grdS h3
                  refine ⟨idx_of hO hg44, ?_⟩
                  obtain ⟨hg45, h3⟩ := grdS h3
                  refine ⟨kin_of hO hg45, ?_⟩
                  obtain ⟨hg46, h3⟩ := grdS h3
                  refine ⟨room_of hO hg46, ?_⟩
                  obtain ⟨hg47, h3⟩ := grdS h3
                  refine ⟨room_of hO hg47, ?_⟩
                  cases h3
                  try dsimp only at h2
                  cases h2
                  try dsimp only at h1
                  refine ⟨inr_of hO hg9, ?_⟩
                  cases h1
                  exact ⟨_, [0, 1, 2, 3, 6], nextI hI3 hi3, by cbv; try simp, by first | exact Nat.lt_succ_self _ | omega⟩
              · rw [hc34]
                cbv
                cases h3
                try dsimp only at h2
                obtain ⟨l154, h3, h2⟩ := bindS h2
                replace h3 := condF h3 rfl
                refine ⟨idx_of hO hg11, ?_⟩
                refine ⟨kin_of hO hg12, ?_⟩
                refine ⟨inr_of hO hg9, ?_⟩
                obtain ⟨hg48, h3⟩ := grdS h3
                refine ⟨idx_of hO hg48, ?_⟩
                obtain ⟨hg49, h3⟩ := grdS h3
                refine ⟨kin_of hO hg49, ?_⟩
                obtain ⟨hg50, h3⟩ := grdS h3
                refine ⟨room_of hO hg50, ?_⟩
                obtain ⟨hg51, h3⟩ := grdS h3
                refine ⟨room_of hO hg51, ?_⟩
                cases h3
                try dsimp only at h2
                cases h2
                try dsimp only at h1
                refine ⟨inr_of hO hg9, ?_⟩
                cases h1
                exact ⟨_, [0, 1, 2, 3, 6], nextI hI3 hi3, by cbv; try simp, by first | exact Nat.lt_succ_self _ | omega⟩
            · as_aux_lemma =>
              rw [hc33]
              cbv
              rcases condS h2 with ⟨hc52, h2⟩ | ⟨hc52, h2⟩
              · rw [hc52]
                cbv
                rcases condS h2 with ⟨hc53, h2⟩ | ⟨hc53, h2⟩
                · rw [hc53]
                  cbv
                  cases h2
                  try dsimp only at h1
                  obtain ⟨l156, h2, h1⟩ := bindS h1
                  replace h2 := condF h2 rfl
                  cases h2
                  try dsimp only at h1
                  refine ⟨inr_of hO hg9, ?_⟩
                  cases h1
                  exact ⟨_, [0, 1, 2, 3, 4], nextI hI3 hi3, by cbv; try simp, by first | exact Nat.lt_succ_self _ | omega⟩
                · rw [hc53]
                  cbv
                  cases h2
                  try dsimp only at h1
                  obtain ⟨l156, h2, h1⟩ := bindS h1
                  replace h2 := condF h2 rfl
                  cases h2
                  try dsimp only at h1
                  refine ⟨inr_of hO hg9, ?_⟩
                  cases h1
                  exact ⟨_, [0, 1, 2, 3, 4], nextI hI3 hi3, by cbv; try simp, by first | exact Nat.lt_succ_self _ | omega⟩
              · rw [hc52]
                cbv
                rcases condS h2 with ⟨hc54, h2⟩ | ⟨hc54, h2⟩
                · rw [hc54]
                  cbv
                  cases h2
                  try dsimp only at h1
                  obtain ⟨l156, h2, h1⟩ := bindS h1
                  replace h2 := condF h2 rfl
                  cases h2
                  try dsimp only at h1
                  refine ⟨inr_of hO hg9, ?_⟩
                  cases h1
                  exact ⟨_, [0, 1, 2, 3, 4], nextI hI3 hi3, by cbv; try simp, by first | exact Nat.lt_succ_self _ | omega⟩
                · rw [hc54]
                  cbv
                  cases h2
                  try dsimp only at h1
                  obtain ⟨l156, h2, h1⟩ := bindS h1
                  replace h2 := condF h2 rfl
                  cases h2
                  try dsimp only at h1
                  refine ⟨inr_of hO hg9, ?_⟩
                  cases h1
                  exact ⟨_, [0, 1, 2, 3, 4], nextI hI3 hi3, by cbv; try simp, by first | exact Nat.lt_succ_self _ | omega⟩
        · as_aux_lemma =>
          rw [hc13]
          cbv
          rcases condS h2 with ⟨hc55, h2⟩ | ⟨hc55, h2⟩
          · as_aux_lemma =>
            rw [hc55]
            cbv
            rcases condS h2 with ⟨hc56, h2⟩ | ⟨hc56, h2⟩
            · as_aux_lemma =>
              rw [hc56]
              cbv
              rcases condS h2 with ⟨hc57, h2⟩ | ⟨hc57, h2⟩
              · as_aux_lemma =>
                rw [hc57]
                cbv
                cases h2
                try dsimp only at h1
                obtain ⟨l156, h2, h1⟩ := bindS h1
                replace h2 := condT h2 rfl
                obtain ⟨x179, h3, h2⟩ := bindS h2
                rcases condS h3 with ⟨hc58, h3⟩ | ⟨hc58, h3⟩
                · as_aux_lemma =>
                  rw [hc58]
                  cbv
                  obtain ⟨hg59, h3⟩ := grdS h3
                  refine ⟨inr_of hO hg59, ?_⟩
                  obtain ⟨hg60, h3⟩ := grdS h3
                  refine ⟨idx_of hO hg60, ?_⟩
                  obtain ⟨hg61, h3⟩ := grdS h3
                  refine ⟨kin_of hO hg61, ?_⟩
                  cases h3
                  try dsimp only at h2
                  obtain ⟨l154, h3, h2⟩ := bindS h2
                  refine ⟨idx_of hO hg11, ?_⟩
                  refine ⟨kin_of hO hg12, ?_⟩
                  rcases condS h3 with ⟨hc62, h3⟩ | ⟨hc62, h3⟩
                  · rw [hc62]
                    cbv
                    obtain ⟨hg63, h3⟩ := grdS h3
                    refine ⟨inr_of hO hg63, ?_⟩
                    refine ⟨inr_of hO hg9, ?_⟩
                    obtain ⟨hg64, h3⟩ := grdS h3
                    refine ⟨idx_of hO hg64, ?_⟩
                    obtain ⟨hg65, h3⟩ := grdS h3
                    refine ⟨kin_of hO hg65, ?_⟩
                    obtain ⟨hg66, h3⟩ := grdS h3
                    refine ⟨idx_of hO hg66, ?_⟩
                    obtain ⟨hg67, h3⟩ := grdS h3
                    refine ⟨kin_of hO hg67, ?_⟩
                    cases h3
                    try dsimp only at h2
                    cases h2
                    try dsimp only at h1
                    refine ⟨inr_of hO hg9, ?_⟩
                    cases h1
                    exact ⟨_, [0, 1, 2, 3, 4], nextI hI3 hi3, by cbv; try simp, by first | exact Nat.lt_succ_self _ | omega⟩
                  · rw [hc62]
                    cbv
                    refine ⟨idx_of hO hg11, ?_⟩
                    refine ⟨kin_of hO hg12, ?_⟩
                    refine ⟨inr_of hO hg9, ?_⟩
                    obtain ⟨hg68, h3⟩ := grdS h3
                    refine ⟨idx_of hO hg68, ?_⟩
                    obtain ⟨hg69, h3⟩ := grdS h3
                    refine ⟨kin_of hO hg69, ?_⟩
                    obtain ⟨hg70, h3⟩ := grdS h3
                    refine ⟨room_of hO hg70, ?_⟩
                    obtain ⟨hg71, h3⟩ := grdS h3
                    refine ⟨room_of hO hg71, ?_⟩
                    cases h3
                    try dsimp only at h2
                    cases h2
                    try dsimp only at h1
                    refine ⟨inr_of hO hg9, ?_⟩
                    cases h1
                    exact ⟨_, [0, 1, 2, 3, 6], nextI hI3 hi3, by cbv; try simp, by first | exact Nat.lt_succ_self _ | omega⟩
                · rw [hc58]
                  cbv
                  cases h3
                  try dsimp only at h2
                  obtain ⟨l154, h3, h2⟩ := bindS h2
                  replace h3 := condF h3 rfl
                  refine ⟨idx_of hO hg11, ?_⟩
                  refine ⟨kin_of hO hg12, ?_⟩
                  refine ⟨inr_of hO hg9, ?_⟩
                  obtain ⟨hg72, h3⟩ := grdS h3
                  refine ⟨idx_of hO hg72, ?_⟩
                  obtain ⟨hg73, h3⟩ := grdS h3
                  refine ⟨kin_of hO hg73, ?_⟩
                  obtain ⟨hg74, h3⟩ := grdS h3
                  refine ⟨room_of hO hg74, ?_⟩
                  obtain ⟨hg75, h3⟩ := grdS h3
                  refine ⟨room_of hO hg75, ?_⟩
                  cases h3
                  try dsimp only at h2
                  cases h2
                  try dsimp only at h1
                  refine ⟨inr_of hO hg9, ?_⟩
                  cases h1
                  exact ⟨_, [0, 1, 2, 3, 6], nextI hI3 hi3, by cbv; try simp, by first | exact Nat.lt_succ_self _ | omega⟩
              · as_aux_lemma =>
                rw [hc57]
                cbv
                rcases condS h2 with ⟨hc76, h2⟩ | ⟨hc76, h2⟩
                · as_aux_lemma =>
                  rw [hc76]
                  cbv
                  rw [show (O .not false) = true from by subst hO; rfl]
                  cbv
                  cases h2
                  try dsimp only at h1
                  obtain ⟨l156, h2, h1⟩ := bindS h1
                  replace h2 := condT h2 (by subst hO; rfl)
                  obtain ⟨x179, h3, h2⟩ := bindS h2
                  rcases condS h3 with ⟨hc77, h3⟩ | ⟨hc77, h3⟩
                  · as_aux_lemma =>
                    rw [hc77]
                    cbv
                    obtain ⟨hg78, h3⟩ := grdS h3
                    refine ⟨inr_of hO hg78, ?_⟩
                    obtain ⟨hg79, h3⟩ := grdS h3
                    refine ⟨idx_of hO hg79, ?_⟩
                    obtain ⟨hg80, h3⟩ := grdS h3
                    refine ⟨kin_of hO hg80, ?_⟩
                    cases h3
                    try dsimp only at h2
                    obtain ⟨l154, h3, h2⟩ := bindS h2
                    refine ⟨idx_of hO hg11, ?_⟩
                    refine ⟨kin_of hO hg12, ?_⟩
                    rcases condS h3 with ⟨hc81, h3⟩ | ⟨hc81, h3⟩
                    · rw [hc81]
                      cbv
                      obtain ⟨hg82, h3⟩ := grdS h3
                      refine ⟨inr_of hO hg82, ?_⟩
                      refine ⟨inr_of hO hg9, ?_⟩
                      obtain ⟨hg83, h3⟩ := grdS h3
                      refine ⟨idx_of hO hg83, ?_⟩
                      obtain ⟨hg84, h3⟩ := grdS h3
                      refine ⟨kin_of hO hg84, ?_⟩
                      obtain ⟨hg85, h3⟩ := grdS h3
                      refine ⟨idx_of hO hg85, ?_⟩
                      obtain ⟨hg86, h3⟩ := grdS h3
                      refine ⟨kin_of hO hg86, ?_⟩
                      cases h3
                      try dsimp only at h2
                      cases h2
                      try dsimp only at h1
                      refine ⟨inr_of hO hg9, ?_⟩
                      cases h1
                      exact ⟨_, [0, 1, 2, 3, 4], nextI hI3 hi3, by cbv; try simp, by first | exact Nat.lt_succ_self _ | omega⟩
                    · rw [hc81]
                      cbv
                      refine ⟨idx_of hO hg11, ?_⟩
                      refine ⟨kin_of hO hg12, ?_⟩
                      refine ⟨inr_of hO hg9, ?_⟩
                      obtain ⟨hg87, h3⟩ := grdS h3
                      refine ⟨idx_of hO hg87, ?_⟩
                      obtain ⟨hg88, h3⟩ := grdS h3
                      refine ⟨kin_of hO hg88, ?_⟩
                      obtain ⟨hg89, h3⟩ := grdS h3
                      refine ⟨room_of hO hg89, ?_⟩
                      obtain ⟨hg90, h3⟩ := grdS h3
                      refine ⟨room_of hO hg90, ?_⟩
                      cases h3
                      try dsimp only at h2
                      cases h2
                      try dsimp only at h1
                      refine ⟨inr_of hO hg9, ?_⟩
                      cases h1
                      exact ⟨_, [0, 1, 2, 3, 6], nextI hI3 hi3, by cbv; try simp, by first | exact Nat.lt_succ_self _ | omega⟩
                  · rw [hc77]
                    cbv
                    cases h3
                    try dsimp only at h2
                    obtain ⟨l154, h3, h2⟩ := bindS h2
                    replace h3 := condF h3 rfl
                    refine ⟨idx_of hO hg11, ?_⟩
                    refine ⟨kin_of hO hg12, ?_⟩
                    refine ⟨inr_of hO hg9, ?_⟩
                    obtain ⟨hg91, h3⟩ := grdS h3
                    refine ⟨idx_of hO hg91, ?_⟩
                    obtain ⟨hg92, h3⟩ := grdS h3
                    refine ⟨kin_of hO hg92, ?_⟩
                    obtain ⟨hg93, h3⟩ := grdS h3
                    refine ⟨room_of hO hg93, ?_⟩
                    obtain ⟨hg94, h3⟩ := grdS h3
                    refine ⟨room_of hO hg94, ?_⟩
                    cases h3
                    try dsimp only at h2
                    cases h2
                    try dsimp only at h1
                    refine ⟨inr_of hO hg9, ?_⟩
                    cases h1
                    exact ⟨_, [0, 1, 2, 3, 6], nextI hI3 hi3, by cbv; try simp, by first | exact Nat.lt_succ_self _ | omega⟩
                · rw [hc76]
                  cbv
                  cases h2
                  try dsimp only at h1
                  obtain ⟨l156, h2, h1⟩ := bindS h1
                  replace h2 := condF h2 rfl
                  cases h2
                  try dsimp only at h1
                  refine ⟨inr_of hO hg9, ?_⟩
                  cases h1
                  exact ⟨_, [0, 1, 2, 3, 4], nextI hI3 hi3, by cbv; try simp, by first | exact Nat.lt_succ_self _ | omega⟩
            · rw [hc56]
              cbv
              rcases condS h2 with ⟨hc95, h2⟩ | ⟨hc95, h2⟩
              · rw [hc95]
                cbv
                cases h2
                try dsimp only at h1
                obtain ⟨l156, h2, h1⟩ := bindS h1
                replace h2 := condF h2 rfl
                cases h2
                try dsimp only at h1
                refine ⟨inr_of hO hg9, ?_⟩
                cases h1
                exact ⟨_, [0, 1, 2, 3, 4], nextI hI3 hi3, by cbv; try simp, by first | exact Nat.lt_succ_self _ | omega⟩
              · rw [hc95]
                cbv
                cases h2
                try dsimp only at h1
                obtain ⟨l156, h2, h1⟩ := bindS h1
                replace h2 := condF h2 rfl
                cases h2
                try dsimp only at h1
                refine ⟨inr_of hO hg9, ?_⟩
                cases h1
                exact ⟨_, [0, 1, 2, 3, 4], nextI hI3 hi3, by cbv; try simp, by first | exact Nat.lt_succ_self _ | omega⟩
          · as_aux_lemma =>
            rw [hc55]
            cbv
            rcases condS h2 with ⟨hc96, h2⟩ | ⟨hc96, h2⟩
            · as_aux_lemma =>
              rw [hc96]
              cbv
              rcases condS h2 with ⟨hc97, h2⟩ | ⟨hc97, h2⟩
              · as_aux_lemma =>
                rw [hc97]
                cbv
                cases h2
                try dsimp only at h1
                obtain ⟨l156, h2, h1⟩ := bindS h1
                rcases condS h2 with ⟨hc98, h2⟩ | ⟨hc98, h2⟩
                · as_aux_lemma =>
                  rw [hc98]
                  cbv
                  obtain ⟨x179, h3, h2⟩ := bindS h2
                  rcases condS h3 with ⟨hc99, h3⟩ | ⟨hc99, h3⟩
                  · as_aux_lemma =>
                    rw [hc99]
                    cbv
                    obtain ⟨hg100, h3⟩ := grdS h3
                    refine ⟨inr_of hO hg100, ?_⟩
                    obtain ⟨hg101, h3⟩ := grdS h3
                    refine ⟨idx_of hO hg101, ?_⟩
                    obtain ⟨hg102, h3⟩ := grdS h3
                    refine ⟨kin_of hO hg102, ?_⟩
                    cases h3
                    try dsimp only at h2
                    obtain ⟨l154, h3, h2⟩ := bindS h2
                    refine ⟨idx_of hO hg11, ?_⟩
                    refine ⟨kin_of hO hg12, ?_⟩
                    rcases condS h3 with ⟨hc103, h3⟩ | ⟨hc103, h3⟩
                    · rw [hc103]
                      cbv
                      obtain ⟨hg104, h3⟩ := grdS h3
                      refine ⟨inr_of hO hg104, ?_⟩
                      refine ⟨inr_of hO hg9, ?_⟩
                      obtain ⟨hg105, h3⟩ := grdS h3
                      refine ⟨idx_of hO hg105, ?_⟩
                      obtain ⟨hg106, h3⟩ := grdS h3
                      refine ⟨kin_of hO hg106, ?_⟩
                      obtain ⟨hg107, h3⟩ := grdS h3
                      refine ⟨idx_of hO hg107, ?_⟩
                      obtain ⟨hg108, h3⟩ := grdS h3
                      refine ⟨kin_of hO hg108, ?_⟩
                      cases h3
                      try dsimp only at h2
                      cases h2
                      try dsimp only at h1
                      refine ⟨inr_of hO hg9, ?_⟩
                      cases h1
                      exact ⟨_, [0, 1, 2, 3, 4], nextI hI3 hi3, by cbv; try simp, by first | exact Nat.lt_succ_self _ | omega⟩
                    · rw [hc103]
                      cbv
                      refine ⟨idx_of hO hg11, ?_⟩
                      refine ⟨kin_of hO hg12, ?_⟩
                      refine ⟨inr_of hO hg9, ?_⟩
                      obtain ⟨hg109, h3⟩ := grdS h3
                      refine ⟨idx_of hO hg109, ?_⟩
                      obtain ⟨hg110, h3⟩ := grdS h3
                      refine ⟨kin_of hO hg110, ?_⟩
                      obtain ⟨hg111, h3⟩ := grdS h3
                      refine ⟨room_of hO hg111, ?_⟩
                      obtain ⟨hg112, h3⟩ := grdS h3
                      refine ⟨room_of hO hg112, ?_⟩
                      cases h3
                      try dsimp only at h2
                      cases h2
                      try dsimp only at h1
                      refine ⟨inr_of hO hg9, ?_⟩
                      cases h1
                      exact ⟨_, [0, 1, 2, 3, 6], nextI hI3 hi3, by cbv; try simp, by first | exact Nat.lt_succ_self _ | omega⟩
                  · rw [hc99]
                    cbv
                    cases h3
                    try dsimp only at h2
                    obtain ⟨l154, h3, h2⟩ := bindS h2
                    replace h3 := condF h3 rfl
                    refine ⟨idx_of hO hg11, ?_⟩
                    refine ⟨kin_of hO hg12, ?_⟩
                    refine ⟨inr_of hO hg9, ?_⟩
                    obtain ⟨hg113, h3⟩ := grdS h3
                    refine ⟨idx_of hO hg113, ?_⟩
                    obtain ⟨hg114, h3⟩ := grdS h3
                    refine ⟨kin_of hO hg114, ?_⟩
                    obtain ⟨hg115, h3⟩ := grdS h3
                    refine ⟨room_of hO hg115, ?_⟩
                    obtain ⟨hg116, h3⟩ := grdS h3
                    refine ⟨room_of hO hg116, ?_⟩
                    cases h3
                    try dsimp only at h2
                    cases h2
                    try dsimp only at h1
                    refine ⟨inr_of hO hg9, ?_⟩
                    cases h1
                    exact ⟨_, [0, 1, 2, 3, 6], nextI hI3 hi3, by cbv; try simp, by first | exact Nat.lt_succ_self _ | omega⟩
                · rw [hc98]
                  cbv
                  cases h2
                  try dsimp only at h1
                  refine ⟨inr_of hO hg9, ?_⟩
                  cases h1
                  exact ⟨_, [0, 1, 2, 3, 4], nextI hI3 hi3, by cbv; try simp, by first | exact Nat.lt_succ_self _ | omega⟩
              · rw [hc97]
                cbv
                cases h2
                try dsimp only at h1
                obtain ⟨l156, h2, h1⟩ := bindS h1
                replace h2 := condF h2 rfl
                cases h2
                try dsimp only at h1
                refine ⟨inr_of hO hg9, ?_⟩
                cases h1
                exact ⟨_, [0, 1, 2, 3, 4], nextI hI3 hi3, by cbv; try simp, by first | exact Nat.lt_succ_self _ | omega⟩
            · rw [hc96]
              cbv
              cases h2
              try dsimp only at h1
              obtain ⟨l156, h2, h1⟩ := bindS h1
              replace h2 := condF h2 rfl
              cases h2
              try dsimp only at h1
              refine ⟨inr_of hO hg9, ?_⟩
              cases h1
              exact ⟨_, [0, 1, 2, 3, 4], nextI hI3 hi3, by cbv; try simp, by first | exact Nat.lt_succ_self _ | omega⟩
      · rw [hc10]
        cbv
        cases h1
        cases exitI hi3
        try dsimp only at h0
        cases h0
        exact fin_ok hX rfl ⟨[4], _, _, ⟨rfl, rfl⟩, rfl, rfl, rfl, rfl, by cbv; try simp⟩
end Go.Proofs.YtkdffpncpikdmaaGreat
