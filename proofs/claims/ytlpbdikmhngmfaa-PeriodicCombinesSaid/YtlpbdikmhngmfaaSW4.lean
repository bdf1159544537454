/-
  The code does what its models say (printed by lift.py).
-/
import Derived.Test.YtlpbdikmhngmfaaQM
import Derived.Test.YtlpbdikmhngmfaaQG
import Derived.Test.YtlpbdikmhngmfaaManWC
import Derived.Test.YtlpbdikmhngmfaaSW2
namespace Go.Proofs.Ytlpbdikmhngmfaa
open Go.RowKit
set_option maxRecDepth 100000

set_option maxHeartbeats 40000000 in
theorem fn_g_combine {mr : Ops → Bool → Bool → Option Bool} {f : Nat} (hcB : callB Try.prog f = true) (hmr : ∀ {O0 : Ops} (_ : O0 = std) {a b r : Bool} (_ : mr O0 a b = some r), Fn Try.prog f [.c (.bool a), .c (.bool b)] [] (fun v c => v = .c (.bool r) ∧ c = [])) {O0 : Ops} (hO0 : O0 = std) {a_1 : List (Int × Int)} {b_1 : List (Int × Int)} {r1 : List (Int × Int)} (h : g_combine mr O0 a_1 b_1 = some r1) :
    Fn Try.prog 49 [.c (.sl 0), .c (.sl 1), .c (.fn f [])] [.arr false .i2 a_1, .arr false .i2 b_1] (fun v c => v = .c (.sl 2) ∧ c = [.own 29 .i2 r1]) := by
  refine fn_run tab_holds eqs_holds mixed [] Try.func49 (by kernel_rfl) (by kernel_rfl) (Nat.le_of_ble_eq_true rfl) ?_
  intro O X hO hX
  rw [hO0, ← hO] at h
  unfold g_combine at h
  have h0 := h; clear h
  cbv
  obtain ⟨l66, hi, h0⟩ := bindS h0
  obtain ⟨I1, hI1, hi⟩ := loopS hi
  refine loop1 tab_holds eqs_holds mixed [] hO hX I1 (fun y => [(7, .c (.sl 3)), (8, .c (.int .i64 y.2.1)), (9, .c (.int .i64 y.2.2.1))]) (fun y => [(3, .own 29 .i2 y.2.2.2)]) (fun y => y.1) _ (by kernel_rfl) hi (by cbv; try simp) ?_
  refine allp ?_
  intro n1
  refine allp ?_
  intro i4
  refine allp ?_
  intro k4
  intro l61 hi
  cbv
  rw [hI1] at hi
  obtain ⟨n1, rfl, x1, h1, hi1⟩ := iterS hi
  unfold g_combine_L1 at h1
  try dsimp only at h1
  obtain ⟨⟨n25, b18⟩, hv, h1⟩ := bindS h1
  try dsimp only at h1
  refine call_is hO hX (fn_periodic_combine_1 hO hv) (by kernel_rfl) [0] rfl ⟨rfl, rfl, trivial⟩ rfl ?_
  cbv
  obtain ⟨⟨n26, b19⟩, hv, h1⟩ := bindS h1
  try dsimp only at h1
  refine call_is hO hX (fn_periodic_combine_1 hO hv) (by kernel_rfl) [1] rfl ⟨rfl, rfl, trivial⟩ rfl ?_
  cbv
  obtain ⟨x89, h2, h1⟩ := bindS h1
  rcases condS h2 with ⟨hc1, h2⟩ | ⟨hc1, h2⟩
  · as_aux_lemma =>
    rw [hc1]
    cbv
    cases h2
    try dsimp only at h1
    rcases condS h1 with ⟨hc2, h1⟩ | ⟨hc2, h1⟩
    · rw [hc2]
      cbv
      cases h1
      cases exitI hi1
      try dsimp only at h0
      cases h0
      exact fin_ok hX rfl ⟨[3], _, _, ⟨rfl, rfl⟩, rfl, rfl, rfl, rfl, by cbv; try simp⟩
    · as_aux_lemma =>
      rw [hc2]
      cbv
      try (rw [hc1]; cbv)
      obtain ⟨⟨is6, x92⟩, h2, h1⟩ := bindS h1
      replace h2 := condT h2 hc1
      cases h2
      try dsimp only at h1
      obtain ⟨at6, h2, h1⟩ := bindS h1
      replace h2 := condT h2 rfl
      cases h2
      try dsimp only at h1
      obtain ⟨hg3, h1⟩ := grdS h1
      refine ⟨nz_of hO hg3, ?_⟩
      refine ⟨nz_of hO hg3, ?_⟩
      obtain ⟨b20, hv, h1⟩ := bindS h1
      refine call_is hO hX (hmr hO hv) hcB [] rfl trivial rfl ?_
      cbv
      obtain ⟨x94, h2, h1⟩ := bindS h1
      rcases condS h2 with ⟨hc4, h2⟩ | ⟨hc4, h2⟩
      · as_aux_lemma =>
        rw [hc4]
        cbv
        cases h2
        try dsimp only at h1
        obtain ⟨i6, h2, h1⟩ := bindS h1
        rcases condS h2 with ⟨hc5, h2⟩ | ⟨hc5, h2⟩
        · as_aux_lemma =>
          rw [hc5]
          cbv
          obtain ⟨hg6, h2⟩ := grdS h2
          refine ⟨inr_of hO hg6, ?_⟩
          cases h2
          try dsimp only at h1
          obtain ⟨x96, h2, h1⟩ := bindS h1
          rcases condS h2 with ⟨hc7, h2⟩ | ⟨hc7, h2⟩
          · as_aux_lemma =>
            rw [hc7]
            cbv
            rw [show (O .eq n26 n26) = true from std_eq_self hO _]
            cbv
            cases h2
            try dsimp only at h1
            obtain ⟨k6, h2, h1⟩ := bindS h1
            replace h2 := condT h2 (std_eq_self hO _)
            obtain ⟨hg8, h2⟩ := grdS h2
            refine ⟨inr_of hO hg8, ?_⟩
            cases h2
            try dsimp only at h1
            refine ⟨nz_of hO hg3, ?_⟩
            refine ⟨nz_of hO hg3, ?_⟩
            obtain ⟨b21, hv, h1⟩ := bindS h1
            refine call_is hO hX (hmr hO hv) hcB [] rfl trivial rfl ?_
            cbv
            obtain ⟨x98, h2, h1⟩ := bindS h1
            rcases condS h2 with ⟨hc9, h2⟩ | ⟨hc9, h2⟩
            · as_aux_lemma =>
              rw [hc9]
              cbv
              cases h2
              try dsimp only at h1
              obtain ⟨l65, h2, h1⟩ := bindS h1
              rcases condS h2 with ⟨hc10, h2⟩ | ⟨hc10, h2⟩
              · rw [hc10]
                cbv
                obtain ⟨hg11, h2⟩ := grdS h2
                refine ⟨room_of hO hg11, ?_⟩
                obtain ⟨hg12, h2⟩ := grdS h2
                refine ⟨room_of hO hg12, ?_⟩
                cases h2
                try dsimp only at h1
                cases h1
                exact ⟨_, [0, 1, 2, 5], nextI hI1 hi1, by cbv; try simp, by first | exact Nat.lt_succ_self _ | omega⟩
              · rw [hc10]
                cbv
                obtain ⟨x100, h3, h2⟩ := bindS h2
                rcases condS h3 with ⟨hc13, h3⟩ | ⟨hc13, h3⟩
                · rw [hc13]
                  cbv
                  rw [show (O .not false) = true from by subst hO; rfl]
                  cbv
                  cases h3
                  try dsimp only at h2
                  obtain ⟨l63, h3, h2⟩ := bindS h2
                  replace h3 := condT h3 (by rw [hc10]; subst hO; rfl)
                  obtain ⟨hg14, h3⟩ := grdS h3
                  refine ⟨inr_of hO hg14, ?_⟩
                  obtain ⟨hg15, h3⟩ := grdS h3
                  refine ⟨idx_of hO hg15, ?_⟩
                  obtain ⟨hg16, h3⟩ := grdS h3
                  refine ⟨kin_of hO hg16, ?_⟩
                  cases h3
                  try dsimp only at h2
                  cases h2
                  try dsimp only at h1
                  cases h1
                  exact ⟨_, [0, 1, 2, 3], nextI hI1 hi1, by cbv; try simp, by first | exact Nat.lt_succ_self _ | omega⟩
                · rw [hc13]
                  cbv
                  cases h3
                  try dsimp only at h2
                  obtain ⟨l63, h3, h2⟩ := bindS h2
                  replace h3 := condF h3 rfl
                  cases h3
                  try dsimp only at h2
                  cases h2
                  try dsimp only at h1
                  cases h1
                  exact ⟨_, [0, 1, 2, 3], nextI hI1 hi1, by cbv; try simp, by first | exact Nat.lt_succ_self _ | omega⟩
            · as_aux_lemma =>
              rw [hc9]
              cbv
              cases h2
              try dsimp only at h1
              obtain ⟨l65, h2, h1⟩ := bindS h1
              replace h2 := condF h2 rfl
              obtain ⟨x100, h3, h2⟩ := bindS h2
              rcases condS h3 with ⟨hc17, h3⟩ | ⟨hc17, h3⟩
              · rw [hc17]
                cbv
                cases h3
                try dsimp only at h2
                obtain ⟨l63, h3, h2⟩ := bindS h2
                rcases condS h3 with ⟨hc18, h3⟩ | ⟨hc18, h3⟩
                · rw [hc18]
                  cbv
                  obtain ⟨hg19, h3⟩ := grdS h3
                  refine ⟨inr_of hO hg19, ?_⟩
                  obtain ⟨hg20, h3⟩ := grdS h3
                  refine ⟨idx_of hO hg20, ?_⟩
                  obtain ⟨hg21, h3⟩ := grdS h3
                  refine ⟨kin_of hO hg21, ?_⟩
                  cases h3
                  try dsimp only at h2
                  cases h2
                  try dsimp only at h1
                  cases h1
                  exact ⟨_, [0, 1, 2, 3], nextI hI1 hi1, by cbv; try simp, by first | exact Nat.lt_succ_self _ | omega⟩
                · rw [hc18]
                  cbv
                  cases h3
                  try dsimp only at h2
                  cases h2
                  try dsimp only at h1
                  cases h1
                  exact ⟨_, [0, 1, 2, 3], nextI hI1 hi1, by cbv; try simp, by first | exact Nat.lt_succ_self _ | omega⟩
              · rw [hc17]
                cbv
                cases h3
                try dsimp only at h2
                obtain ⟨l63, h3, h2⟩ := bindS h2
                replace h3 := condF h3 rfl
                cases h3
                try dsimp only at h2
                cases h2
                try dsimp only at h1
                cases h1
                exact ⟨_, [0, 1, 2, 3], nextI hI1 hi1, by cbv; try simp, by first | exact Nat.lt_succ_self _ | omega⟩
          · as_aux_lemma =>
            rw [hc7]
            cbv
            cases h2
            try dsimp only at h1
            obtain ⟨k6, h2, h1⟩ := bindS h1
            replace h2 := condF h2 rfl
            cases h2
            try dsimp only at h1
            refine ⟨nz_of hO hg3, ?_⟩
            refine ⟨nz_of hO hg3, ?_⟩
            obtain ⟨b21, hv, h1⟩ := bindS h1
            refine call_is hO hX (hmr hO hv) hcB [] rfl trivial rfl ?_
            cbv
            obtain ⟨x98, h2, h1⟩ := bindS h1
            rcases condS h2 with ⟨hc22, h2⟩ | ⟨hc22, h2⟩
            · as_aux_lemma =>
              rw [hc22]
              cbv
              cases h2
              try dsimp only at h1
              obtain ⟨l65, h2, h1⟩ := bindS h1
              rcases condS h2 with ⟨hc23, h2⟩ | ⟨hc23, h2⟩
              · rw [hc23]
                cbv
                obtain ⟨hg24, h2⟩ := grdS h2
                refine ⟨room_of hO hg24, ?_⟩
                obtain ⟨hg25, h2⟩ := grdS h2
                refine ⟨room_of hO hg25, ?_⟩
                cases h2
                try dsimp only at h1
                cases h1
                exact ⟨_, [0, 1, 2, 5], nextI hI1 hi1, by cbv; try simp, by first | exact Nat.lt_succ_self _ | omega⟩
              · rw [hc23]
                cbv
                obtain ⟨x100, h3, h2⟩ := bindS h2
                rcases condS h3 with ⟨hc26, h3⟩ | ⟨hc26, h3⟩
                · rw [hc26]
                  cbv
                  rw [show (O .not false) = true from by subst hO; rfl]
                  cbv
                  cases h3
                  try dsimp only at h2
                  obtain ⟨l63, h3, h2⟩ := bindS h2
                  replace h3 := condT h3 (by rw [hc23]; subst hO; rfl)
                  obtain ⟨hg27, h3⟩ := grdS h3
                  refine ⟨inr_of hO hg27, ?_⟩
                  obtain ⟨hg28, h3⟩ := grdS h3
                  refine ⟨idx_of hO hg28, ?_⟩
                  obtain ⟨hg29, h3⟩ := grdS h3
                  refine ⟨kin_of hO hg29, ?_⟩
                  cases h3
                  try dsimp only at h2
                  cases h2
                  try dsimp only at h1
                  cases h1
                  exact ⟨_, [0, 1, 2, 3], nextI hI1 hi1, by cbv; try simp, by first | exact Nat.lt_succ_self _ | omega⟩
                · rw [hc26]
                  cbv
                  cases h3
                  try dsimp only at h2
                  obtain ⟨l63, h3, h2⟩ := bindS h2
                  replace h3 := condF h3 rfl
                  cases h3
                  try dsimp only at h2
                  cases h2
                  try dsimp only at h1
                  cases h1
                  exact ⟨_, [0, 1, 2, 3], nextI hI1 hi1, by cbv; try simp, by first | exact Nat.lt_succ_self _ | omega⟩
            · as_aux_lemma =>
              rw [hc22]
              cbv
              cases h2
              try dsimp only at h1
              obtain ⟨l65, h2, h1⟩ := bindS h1
              replace h2 := condF h2 rfl
              obtain ⟨x100, h3, h2⟩ := bindS h2
              rcases condS h3 with ⟨hc30, h3⟩ | ⟨hc30, h3⟩
              · rw [hc30]
                cbv
                cases h3
                try dsimp only at h2
                obtain ⟨l63, h3, h2⟩ := bindS h2
                rcases condS h3 with ⟨hc31, h3⟩ | ⟨hc31, h3⟩
                · rw [hc31]
                  cbv
                  obtain ⟨hg32, h3⟩ := grdS h3
                  refine ⟨inr_of hO hg32, ?_⟩
                  obtain ⟨hg33, h3⟩ := grdS h3
                  refine ⟨idx_of hO hg33, ?_⟩
                  obtain ⟨hg34, h3⟩ := grdS h3
                  refine ⟨kin_of hO hg34, ?_⟩
                  cases h3
                  try dsimp only at h2
                  cases h2
                  try dsimp only at h1
                  cases h1
                  exact ⟨_, [0, 1, 2, 3], nextI hI1 hi1, by cbv; try simp, by first | exact Nat.lt_succ_self _ | omega⟩
                · rw [hc31]
                  cbv
                  cases h3
                  try dsimp only at h2
                  cases h2
                  try dsimp only at h1
                  cases h1
                  exact ⟨_, [0, 1, 2, 3], nextI hI1 hi1, by cbv; try simp, by first | exact Nat.lt_succ_self _ | omega⟩
              · rw [hc30]
                cbv
                cases h3
                try dsimp only at h2
                obtain ⟨l63, h3, h2⟩ := bindS h2
                replace h3 := condF h3 rfl
                cases h3
                try dsimp only at h2
                cases h2
                try dsimp only at h1
                cases h1
                exact ⟨_, [0, 1, 2, 3], nextI hI1 hi1, by cbv; try simp, by first | exact Nat.lt_succ_self _ | omega⟩
        · as_aux_lemma =>
          rw [hc5]
          cbv
          cases h2
          try dsimp only at h1
          obtain ⟨x96, h2, h1⟩ := bindS h1
          rcases condS h2 with ⟨hc35, h2⟩ | ⟨hc35, h2⟩
          · as_aux_lemma =>
            rw [hc35]
            cbv
            rw [show (O .eq n26 n26) = true from std_eq_self hO _]
            cbv
            cases h2
            try dsimp only at h1
            obtain ⟨k6, h2, h1⟩ := bindS h1
            replace h2 := condT h2 (std_eq_self hO _)
            obtain ⟨hg36, h2⟩ := grdS h2
            refine ⟨inr_of hO hg36, ?_⟩
            cases h2
            try dsimp only at h1
            refine ⟨nz_of hO hg3, ?_⟩
            refine ⟨nz_of hO hg3, ?_⟩
            obtain ⟨b21, hv, h1⟩ := bindS h1
            refine call_is hO hX (hmr hO hv) hcB [] rfl trivial rfl ?_
            cbv
            obtain ⟨x98, h2, h1⟩ := bindS h1
            rcases condS h2 with ⟨hc37, h2⟩ | ⟨hc37, h2⟩
            · as_aux_lemma =>
              rw [hc37]
              cbv
              cases h2
              try dsimp only at h1
              obtain ⟨l65, h2, h1⟩ := bindS h1
              rcases condS h2 with ⟨hc38, h2⟩ | ⟨hc38, h2⟩
              · rw [hc38]
                cbv
                obtain ⟨hg39, h2⟩ := grdS h2
                refine ⟨room_of hO hg39, ?_⟩
                obtain ⟨hg40, h2⟩ := grdS h2
                refine ⟨room_of hO hg40, ?_⟩
                cases h2
                try dsimp only at h1
                cases h1
                exact ⟨_, [0, 1, 2, 5], nextI hI1 hi1, by cbv; try simp, by first | exact Nat.lt_succ_self _ | omega⟩
              · rw [hc38]
                cbv
                obtain ⟨x100, h3, h2⟩ := bindS h2
                rcases condS h3 with ⟨hc41, h3⟩ | ⟨hc41, h3⟩
                · rw [hc41]
                  cbv
                  rw [show (O .not false) = true from by subst hO; rfl]
                  cbv
                  cases h3
                  try dsimp only at h2
                  obtain ⟨l63, h3, h2⟩ := bindS h2
                  replace h3 := condT h3 (by rw [hc38]; subst hO; rfl)
                  obtain ⟨hg42, h3⟩ := grdS h3
                  refine ⟨inr_of hO hg42, ?_⟩
                  obtain ⟨hg43, h3⟩ := grdS h3
                  refine ⟨idx_of hO hg43, ?_⟩
                  obtain ⟨hg44, h3⟩ := grdS h3
                  refine ⟨kin_of hO hg44, ?_⟩
                  cases h3
                  try dsimp only at h2
                  cases h2
                  try dsimp only at h1
                  cases h1
                  exact ⟨_, [0, 1, 2, 3], nextI hI1 hi1, by cbv; try simp, by first | exact Nat.lt_succ_self _ | omega⟩
                · rw [hc41]
                  cbv
                  cases h3
                  try dsimp only at h2
                  obtain ⟨l63, h3, h2⟩ := bindS h2
                  replace h3 := condF h3 rfl
                  cases h3
                  try dsimp only at h2
                  cases h2
                  try dsimp only at h1
                  cases h1
                  exact ⟨_, [0, 1, 2, 3], nextI hI1 hi1, by cbv; try simp, by first | exact Nat.lt_succ_self _ | omega⟩
            · as_aux_lemma =>
              rw [hc37]
              cbv
              cases h2
              try dsimp only at h1
              obtain ⟨l65, h2, h1⟩ := bindS h1
              replace h2 := condF h2 rfl
              obtain ⟨x100, h3, h2⟩ := bindS h2
              rcases condS h3 with ⟨hc45, h3⟩ | ⟨hc45, h3⟩
              · rw [hc45]
                cbv
                cases h3
                try dsimp only at h2
                obtain ⟨l63, h3, h2⟩ := bindS h2
                rcases condS h3 with ⟨hc46, h3⟩ | ⟨hc46, h3⟩
                · rw [hc46]
                  cbv
                  obtain ⟨hg47, h3⟩ := grdS h3
                  refine ⟨inr_of hO hg47, ?_⟩
                  obtain ⟨hg48, h3⟩ := grdS h3
                  refine ⟨idx_of hO hg48, ?_⟩
                  obtain ⟨hg49, h3⟩ := grdS h3
                  refine ⟨kin_of hO hg49, ?_⟩
                  cases h3
                  try dsimp only at h2
                  cases h2
                  try dsimp only at h1
                  cases h1
                  exact ⟨_, [0, 1, 2, 3], nextI hI1 hi1, by cbv; try simp, by first | exact Nat.lt_succ_self _ | omega⟩
                · rw [hc46]
                  cbv
                  cases h3
                  try dsimp only at h2
                  cases h2
                  try dsimp only at h1
                  cases h1
                  exact ⟨_, [0, 1, 2, 3], nextI hI1 hi1, by cbv; try simp, by first | exact Nat.lt_succ_self _ | omega⟩
              · rw [hc45]
                cbv
                cases h3
                try dsimp only at h2
                obtain ⟨l63, h3, h2⟩ := bindS h2
                replace h3 := condF h3 rfl
                cases h3
                try dsimp only at h2
                cases h2
                try dsimp only at h1
                cases h1
                exact ⟨_, [0, 1, 2, 3], nextI hI1 hi1, by cbv; try simp, by first | exact Nat.lt_succ_self _ | omega⟩
          · as_aux_lemma =>
            rw [hc35]
            cbv
            cases h2
            try dsimp only at h1
            obtain ⟨k6, h2, h1⟩ := bindS h1
            replace h2 := condF h2 rfl
            cases h2
            try dsimp only at h1
            refine ⟨nz_of hO hg3, ?_⟩
            refine ⟨nz_of hO hg3, ?_⟩
            obtain ⟨b21, hv, h1⟩ := bindS h1
            refine call_is hO hX (hmr hO hv) hcB [] rfl trivial rfl ?_
            cbv
            obtain ⟨x98, h2, h1⟩ := bindS h1
            rcases condS h2 with ⟨hc50, h2⟩ | ⟨hc50, h2⟩
            · as_aux_lemma =>
              rw [hc50]
              cbv
              cases h2
              try dsimp only at h1
              obtain ⟨l65, h2, h1⟩ := bindS h1
              rcases condS h2 with ⟨hc51, h2⟩ | ⟨hc51, h2⟩
              · rw [hc51]
                cbv
                obtain ⟨hg52, h2⟩ := grdS h2
                refine ⟨room_of hO hg52, ?_⟩
                obtain ⟨hg53, h2⟩ := grdS h2
                refine ⟨room_of hO hg53, ?_⟩
                cases h2
                try dsimp only at h1
                cases h1
                exact ⟨_, [0, 1, 2, 5], nextI hI1 hi1, by cbv; try simp, by first | exact Nat.lt_succ_self _ | omega⟩
              · rw [hc51]
                cbv
                obtain ⟨x100, h3, h2⟩ := bindS h2
                rcases condS h3 with ⟨hc54, h3⟩ | ⟨hc54, h3⟩
                · rw [hc54]
                  cbv
                  rw [show (O .not false) = true from by subst hO; rfl]
                  cbv
                  cases h3
                  try dsimp only at h2
                  obtain ⟨l63, h3, h2⟩ := bindS h2
                  replace h3 := condT h3 (by rw [hc51]; subst hO; rfl)
                  obtain ⟨hg55, h3⟩ := grdS h3
                  refine ⟨inr_of hO hg55, ?_⟩
                  obtain ⟨hg56, h3⟩ := grdS h3
                  refine ⟨idx_of hO hg56, ?_⟩
                  obtain ⟨hg57, h3⟩ := grdS h3
                  refine ⟨kin_of hO hg57, ?_⟩
                  cases h3
                  try dsimp only at h2
                  cases h2
                  try dsimp only at h1
                  cases h1
                  exact ⟨_, [0, 1, 2, 3], nextI hI1 hi1, by cbv; try simp, by first | exact Nat.lt_succ_self _ | omega⟩
                · rw [hc54]
                  cbv
                  cases h3
                  try dsimp only at h2
                  obtain ⟨l63, h3, h2⟩ := bindS h2
                  replace h3 := condF h3 rfl
                  cases h3
                  try dsimp only at h2
                  cases h2
                  try dsimp only at h1
                  cases h1
                  exact ⟨_, [0, 1, 2, 3], nextI hI1 hi1, by cbv; try simp, by first | exact Nat.lt_succ_self _ | omega⟩
            · as_aux_lemma =>
              rw [hc50]
              cbv
              cases h2
              try dsimp only at h1
              obtain ⟨l65, h2, h1⟩ := bindS h1
              replace h2 := condF h2 rfl
              obtain ⟨x100, h3, h2⟩ := bindS h2
              rcases condS h3 with ⟨hc58, h3⟩ | ⟨hc58, h3⟩
              · rw [hc58]
                cbv
                cases h3
                try dsimp only at h2
                obtain ⟨l63, h3, h2⟩ := bindS h2
                rcases condS h3 with ⟨hc59, h3⟩ | ⟨hc59, h3⟩
                · rw [hc59]
                  cbv
                  obtain ⟨hg60, h3⟩ := grdS h3
                  refine ⟨inr_of hO hg60, ?_⟩
                  obtain ⟨hg61, h3⟩ := grdS h3
                  refine ⟨idx_of hO hg61, ?_⟩
                  obtain ⟨hg62, h3⟩ := grdS h3
                  refine ⟨kin_of hO hg62, ?_⟩
                  cases h3
                  try dsimp only at h2
                  cases h2
                  try dsimp only at h1
                  cases h1
                  exact ⟨_, [0, 1, 2, 3], nextI hI1 hi1, by cbv; try simp, by first | exact Nat.lt_succ_self _ | omega⟩
                · rw [hc59]
                  cbv
                  cases h3
                  try dsimp only at h2
                  cases h2
                  try dsimp only at h1
                  cases h1
                  exact ⟨_, [0, 1, 2, 3], nextI hI1 hi1, by cbv; try simp, by first | exact Nat.lt_succ_self _ | omega⟩
              · rw [hc58]
                cbv
                cases h3
                try dsimp only at h2
                obtain ⟨l63, h3, h2⟩ := bindS h2
                replace h3 := condF h3 rfl
                cases h3
                try dsimp only at h2
                cases h2
                try dsimp only at h1
                cases h1
                exact ⟨_, [0, 1, 2, 3], nextI hI1 hi1, by cbv; try simp, by first | exact Nat.lt_succ_self _ | omega⟩
      · as_aux_lemma =>
        rw [hc4]
        cbv
        cases h2
        try dsimp only at h1
        obtain ⟨i6, h2, h1⟩ := bindS h1
        replace h2 := condF h2 rfl
        cases h2
        try dsimp only at h1
        obtain ⟨x96, h2, h1⟩ := bindS h1
        rcases condS h2 with ⟨hc63, h2⟩ | ⟨hc63, h2⟩
        · as_aux_lemma =>
          rw [hc63]
          cbv
          rw [show (O .eq n26 n26) = true from std_eq_self hO _]
          cbv
          cases h2
          try dsimp only at h1
          obtain ⟨k6, h2, h1⟩ := bindS h1
          replace h2 := condT h2 (std_eq_self hO _)
          obtain ⟨hg64, h2⟩ := grdS h2
          refine ⟨inr_of hO hg64, ?_⟩
          cases h2
          try dsimp only at h1
          refine ⟨nz_of hO hg3, ?_⟩
          refine ⟨nz_of hO hg3, ?_⟩
          obtain ⟨b21, hv, h1⟩ := bindS h1
          refine call_is hO hX (hmr hO hv) hcB [] rfl trivial rfl ?_
          cbv
          obtain ⟨x98, h2, h1⟩ := bindS h1
          rcases condS h2 with ⟨hc65, h2⟩ | ⟨hc65, h2⟩
          · as_aux_lemma =>
            rw [hc65]
            cbv
            cases h2
            try dsimp only at h1
            obtain ⟨l65, h2, h1⟩ := bindS h1
            rcases condS h2 with ⟨hc66, h2⟩ | ⟨hc66, h2⟩
            · rw [hc66]
              cbv
              obtain ⟨hg67, h2⟩ := grdS h2
              refine ⟨room_of hO hg67, ?_⟩
              obtain ⟨hg68, h2⟩ := grdS h2
              refine ⟨room_of hO hg68, ?_⟩
              cases h2
              try dsimp only at h1
              cases h1
              exact ⟨_, [0, 1, 2, 5], nextI hI1 hi1, by cbv; try simp, by first | exact Nat.lt_succ_self _ | omega⟩
            · rw [hc66]
              cbv
              obtain ⟨x100, h3, h2⟩ := bindS h2
              rcases condS h3 with ⟨hc69, h3⟩ | ⟨hc69, h3⟩
              · rw [hc69]
                cbv
                rw [show (O .not false) = true from by subst hO; rfl]
                cbv
                cases h3
                try dsimp only at h2
                obtain ⟨l63, h3, h2⟩ := bindS h2
                replace h3 := condT h3 (by rw [hc66]; subst hO; rfl)
                obtain ⟨hg70, h3⟩ := grdS h3
                refine ⟨inr_of hO hg70, ?_⟩
                obtain ⟨hg71, h3⟩ := grdS h3
                refine ⟨idx_of hO hg71, ?_⟩
                obtain ⟨hg72, h3⟩ := grdS h3
                refine ⟨kin_of hO hg72, ?_⟩
                cases h3
                try dsimp only at h2
                cases h2
                try dsimp only at h1
                cases h1
                exact ⟨_, [0, 1, 2, 3], nextI hI1 hi1, by cbv; try simp, by first | exact Nat.lt_succ_self _ | omega⟩
              · rw [hc69]
                cbv
                cases h3
                try dsimp only at h2
                obtain ⟨l63, h3, h2⟩ := bindS h2
                replace h3 := condF h3 rfl
                cases h3
                try dsimp only at h2
                cases h2
                try dsimp only at h1
                cases h1
                exact ⟨_, [0, 1, 2, 3], nextI hI1 hi1, by cbv; try simp, by first | exact Nat.lt_succ_self _ | omega⟩
          · as_aux_lemma =>
            rw [hc65]
            cbv
            cases h2
            try dsimp only at h1
            obtain ⟨l65, h2, h1⟩ := bindS h1
            replace h2 := condF h2 rfl
            obtain ⟨x100, h3, h2⟩ := bindS h2
            rcases condS h3 with ⟨hc73, h3⟩ | ⟨hc73, h3⟩
            · rw [hc73]
              cbv
              cases h3
              try dsimp only at h2
              obtain ⟨l63, h3, h2⟩ := bindS h2
              rcases condS h3 with ⟨hc74, h3⟩ | ⟨hc74, h3⟩
              · rw [hc74]
                cbv
                obtain ⟨hg75, h3⟩ := grdS h3
                refine ⟨inr_of hO hg75, ?_⟩
                obtain ⟨hg76, h3⟩ := grdS h3
                refine ⟨idx_of hO hg76, ?_⟩
                obtain ⟨hg77, h3⟩ := grdS h3
                refine ⟨kin_of hO hg77, ?_⟩
                cases h3
                try dsimp only at h2
                cases h2
                try dsimp only at h1
                cases h1
                exact ⟨_, [0, 1, 2, 3], nextI hI1 hi1, by cbv; try simp, by first | exact Nat.lt_succ_self _ | omega⟩
              · rw [hc74]
                cbv
                cases h3
                try dsimp only at h2
                cases h2
                try dsimp only at h1
                cases h1
                exact ⟨_, [0, 1, 2, 3], nextI hI1 hi1, by cbv; try simp, by first | exact Nat.lt_succ_self _ | omega⟩
            · rw [hc73]
              cbv
              cases h3
              try dsimp only at h2
              obtain ⟨l63, h3, h2⟩ := bindS h2
              replace h3 := condF h3 rfl
              cases h3
              try dsimp only at h2
              cases h2
              try dsimp only at h1
              cases h1
              exact ⟨_, [0, 1, 2, 3], nextI hI1 hi1, by cbv; try simp, by first | exact Nat.lt_succ_self _ | omega⟩
        · as_aux_lemma =>
          rw [hc63]
          cbv
          cases h2
          try dsimp only at h1
          obtain ⟨k6, h2, h1⟩ := bindS h1
          replace h2 := condF h2 rfl
          cases h2
          try dsimp only at h1
          refine ⟨nz_of hO hg3, ?_⟩
          refine ⟨nz_of hO hg3, ?_⟩
          obtain ⟨b21, hv, h1⟩ := bindS h1
          refine call_is hO hX (hmr hO hv) hcB [] rfl trivial rfl ?_
          cbv
          obtain ⟨x98, h2, h1⟩ := bindS h1
          rcases condS h2 with ⟨hc78, h2⟩ | ⟨hc78, h2⟩
          · as_aux_lemma =>
            rw [hc78]
            cbv
            cases h2
            try dsimp only at h1
            obtain ⟨l65, h2, h1⟩ := bindS h1
            rcases condS h2 with ⟨hc79, h2⟩ | ⟨hc79, h2⟩
            · rw [hc79]
              cbv
              obtain ⟨hg80, h2⟩ := grdS h2
              refine ⟨room_of hO hg80, ?_⟩
              obtain ⟨hg81, h2⟩ := grdS h2
              refine ⟨room_of hO hg81, ?_⟩
              cases h2
              try dsimp only at h1
              cases h1
              exact ⟨_, [0, 1, 2, 5], nextI hI1 hi1, by cbv; try simp, by first | exact Nat.lt_succ_self _ | omega⟩
            · rw [hc79]
              cbv
              obtain ⟨x100, h3, h2⟩ := bindS h2
              rcases condS h3 with ⟨hc82, h3⟩ | ⟨hc82, h3⟩
              · rw [hc82]
                cbv
                rw [show (O .not false) = true from by subst hO; rfl]
                cbv
                cases h3
                try dsimp only at h2
                obtain ⟨l63, h3, h2⟩ := bindS h2
                replace h3 := condT h3 (by rw [hc79]; subst hO; rfl)
                obtain ⟨hg83, h3⟩ := grdS h3
                refine ⟨inr_of hO hg83, ?_⟩
                obtain ⟨hg84, h3⟩ := grdS h3
                refine ⟨idx_of hO hg84, ?_⟩
                obtain ⟨hg85, h3⟩ := grdS h3
                refine ⟨kin_of hO hg85, ?_⟩
                cases h3
                try dsimp only at h2
                cases h2
                try dsimp only at h1
                cases h1
                exact ⟨_, [0, 1, 2, 3], nextI hI1 hi1, by cbv; try simp, by first | exact Nat.lt_succ_self _ | omega⟩
              · rw [hc82]
                cbv
                cases h3
                try dsimp only at h2
                obtain ⟨l63, h3, h2⟩ := bindS h2
                replace h3 := condF h3 rfl
                cases h3
                try dsimp only at h2
                cases h2
                try dsimp only at h1
                cases h1
                exact ⟨_, [0, 1, 2, 3], nextI hI1 hi1, by cbv; try simp, by first | exact Nat.lt_succ_self _ | omega⟩
          · as_aux_lemma =>
            rw [hc78]
            cbv
            cases h2
            try dsimp only at h1
            obtain ⟨l65, h2, h1⟩ := bindS h1
            replace h2 := condF h2 rfl
            obtain ⟨x100, h3, h2⟩ := bindS h2
            rcases condS h3 with ⟨hc86, h3⟩ | ⟨hc86, h3⟩
            · rw [hc86]
              cbv
              cases h3
              try dsimp only at h2
              obtain ⟨l63, h3, h2⟩ := bindS h2
              rcases condS h3 with ⟨hc87, h3⟩ | ⟨hc87, h3⟩
              · rw [hc87]
                cbv
                obtain ⟨hg88, h3⟩ := grdS h3
                refine ⟨inr_of hO hg88, ?_⟩
                obtain ⟨hg89, h3⟩ := grdS h3
                refine ⟨idx_of hO hg89, ?_⟩
                obtain ⟨hg90, h3⟩ := grdS h3
                refine ⟨kin_of hO hg90, ?_⟩
                cases h3
                try dsimp only at h2
                cases h2
                try dsimp only at h1
                cases h1
                exact ⟨_, [0, 1, 2, 3], nextI hI1 hi1, by cbv; try simp, by first | exact Nat.lt_succ_self _ | omega⟩
              · rw [hc87]
                cbv
                cases h3
                try dsimp only at h2
                cases h2
                try dsimp only at h1
                cases h1
                exact ⟨_, [0, 1, 2, 3], nextI hI1 hi1, by cbv; try simp, by first | exact Nat.lt_succ_self _ | omega⟩
            · rw [hc86]
              cbv
              cases h3
              try dsimp only at h2
              obtain ⟨l63, h3, h2⟩ := bindS h2
              replace h3 := condF h3 rfl
              cases h3
              try dsimp only at h2
              cases h2
              try dsimp only at h1
              cases h1
              exact ⟨_, [0, 1, 2, 3], nextI hI1 hi1, by cbv; try simp, by first | exact Nat.lt_succ_self _ | omega⟩
  · as_aux_lemma =>
    rw [hc1]
    cbv
    try (rw [hc1]; cbv)
    cases h2
    try dsimp only at h1
    replace h1 := condF h1 rfl
    obtain ⟨⟨is6, x92⟩, h2, h1⟩ := bindS h1
    replace h2 := condF h2 hc1
    rcases condS h2 with ⟨hc91, h2⟩ | ⟨hc91, h2⟩
    · as_aux_lemma =>
      rw [hc91]
      cbv
      cases h2
      try dsimp only at h1
      obtain ⟨at6, h2, h1⟩ := bindS h1
      rcases condS h2 with ⟨hc92, h2⟩ | ⟨hc92, h2⟩
      · as_aux_lemma =>
        rw [hc92]
        cbv
        cases h2
        try dsimp only at h1
        obtain ⟨hg93, h1⟩ := grdS h1
        refine ⟨nz_of hO hg93, ?_⟩
        refine ⟨nz_of hO hg93, ?_⟩
        obtain ⟨b20, hv, h1⟩ := bindS h1
        refine call_is hO hX (hmr hO hv) hcB [] rfl trivial rfl ?_
        cbv
        obtain ⟨x94, h2, h1⟩ := bindS h1
        rcases condS h2 with ⟨hc94, h2⟩ | ⟨hc94, h2⟩
        · as_aux_lemma =>
          rw [hc94]
          cbv
          cases h2
          try dsimp only at h1
          obtain ⟨i6, h2, h1⟩ := bindS h1
          rcases condS h2 with ⟨hc95, h2⟩ | ⟨hc95, h2⟩
          · as_aux_lemma =>
            rw [hc95]
            cbv
            obtain ⟨hg96, h2⟩ := grdS h2
            refine ⟨inr_of hO hg96, ?_⟩
            rw [show (O .eq n26 n26) = true from std_eq_self hO _]
            cbv
            cases h2
            try dsimp only at h1
            obtain ⟨x96, h2, h1⟩ := bindS h1
            replace h2 := condT h2 rfl
            cases h2
            try dsimp only at h1
            obtain ⟨k6, h2, h1⟩ := bindS h1
            replace h2 := condT h2 (std_eq_self hO _)
            obtain ⟨hg97, h2⟩ := grdS h2
            refine ⟨inr_of hO hg97, ?_⟩
            cases h2
            try dsimp only at h1
            refine ⟨nz_of hO hg93, ?_⟩
            refine ⟨nz_of hO hg93, ?_⟩
            obtain ⟨b21, hv, h1⟩ := bindS h1
            refine call_is hO hX (hmr hO hv) hcB [] rfl trivial rfl ?_
            cbv
            obtain ⟨x98, h2, h1⟩ := bindS h1
            rcases condS h2 with ⟨hc98, h2⟩ | ⟨hc98, h2⟩
            · as_aux_lemma =>
              rw [hc98]
              cbv
              cases h2
              try dsimp only at h1
              obtain ⟨l65, h2, h1⟩ := bindS h1
              rcases condS h2 with ⟨hc99, h2⟩ | ⟨hc99, h2⟩
              · rw [hc99]
                cbv
                obtain ⟨hg100, h2⟩ := grdS h2
                refine ⟨room_of hO hg100, ?_⟩
                obtain ⟨hg101, h2⟩ := grdS h2
                refine ⟨room_of hO hg101, ?_⟩
                cases h2
                try dsimp only at h1
                cases h1
                exact ⟨_, [0, 1, 2, 5], nextI hI1 hi1, by cbv; try simp, by first | exact Nat.lt_succ_self _ | omega⟩
              · rw [hc99]
                cbv
                obtain ⟨x100, h3, h2⟩ := bindS h2
                rcases condS h3 with ⟨hc102, h3⟩ | ⟨hc102, h3⟩
                · rw [hc102]
                  cbv
                  rw [show (O .not false) = true from by subst hO; rfl]
                  cbv
                  cases h3
                  try dsimp only at h2
                  obtain ⟨l63, h3, h2⟩ := bindS h2
                  replace h3 := condT h3 (by rw [hc99]; subst hO; rfl)
                  obtain ⟨hg103, h3⟩ := grdS h3
                  refine ⟨inr_of hO hg103, ?_⟩
                  obtain ⟨hg104, h3⟩ := grdS h3
                  refine ⟨idx_of hO hg104, ?_⟩
                  obtain ⟨hg105, h3⟩ := grdS h3
                  refine ⟨kin_of hO hg105, ?_⟩
                  cases h3
                  try dsimp only at h2
                  cases h2
                  try dsimp only at h1
                  cases h1
                  exact ⟨_, [0, 1, 2, 3], nextI hI1 hi1, by cbv; try simp, by first | exact Nat.lt_succ_self _ | omega⟩
                · rw [hc102]
                  cbv
                  cases h3
                  try dsimp only at h2
                  obtain ⟨l63, h3, h2⟩ := bindS h2
                  replace h3 := condF h3 rfl
                  cases h3
                  try dsimp only at h2
                  cases h2
                  try dsimp only at h1
                  cases h1
                  exact ⟨_, [0, 1, 2, 3], nextI hI1 hi1, by cbv; try simp, by first | exact Nat.lt_succ_self _ | omega⟩
            · as_aux_lemma =>
              rw [hc98]
              cbv
              cases h2
              try dsimp only at h1
              obtain ⟨l65, h2, h1⟩ := bindS h1
              replace h2 := condF h2 rfl
              obtain ⟨x100, h3, h2⟩ := bindS h2
              rcases condS h3 with ⟨hc106, h3⟩ | ⟨hc106, h3⟩
              · rw [hc106]
                cbv
                cases h3
                try dsimp only at h2
                obtain ⟨l63, h3, h2⟩ := bindS h2
                rcases condS h3 with ⟨hc107, h3⟩ | ⟨hc107, h3⟩
                · rw [hc107]
                  cbv
                  obtain ⟨hg108, h3⟩ := grdS h3
                  refine ⟨inr_of hO hg108, ?_⟩
                  obtain ⟨hg109, h3⟩ := grdS h3
                  refine ⟨idx_of hO hg109, ?_⟩
                  obtain ⟨hg110, h3⟩ := grdS h3
                  refine ⟨kin_of hO hg110, ?_⟩
                  cases h3
                  try dsimp only at h2
                  cases h2
                  try dsimp only at h1
                  cases h1
                  exact ⟨_, [0, 1, 2, 3], nextI hI1 hi1, by cbv; try simp, by first | exact Nat.lt_succ_self _ | omega⟩
                · rw [hc107]
                  cbv
                  cases h3
                  try dsimp only at h2
                  cases h2
                  try dsimp only at h1
                  cases h1
                  exact ⟨_, [0, 1, 2, 3], nextI hI1 hi1, by cbv; try simp, by first | exact Nat.lt_succ_self _ | omega⟩
              · rw [hc106]
                cbv
                cases h3
                try dsimp only at h2
                obtain ⟨l63, h3, h2⟩ := bindS h2
                replace h3 := condF h3 rfl
                cases h3
                try dsimp only at h2
                cases h2
                try dsimp only at h1
                cases h1
                exact ⟨_, [0, 1, 2, 3], nextI hI1 hi1, by cbv; try simp, by first | exact Nat.lt_succ_self _ | omega⟩
          · as_aux_lemma =>
            rw [hc95]
            cbv
            rw [show (O .eq n26 n26) = true from std_eq_self hO _]
            cbv
            cases h2
            try dsimp only at h1
            obtain ⟨x96, h2, h1⟩ := bindS h1
            replace h2 := condT h2 rfl
            cases h2
            try dsimp only at h1
            obtain ⟨k6, h2, h1⟩ := bindS h1
            replace h2 := condT h2 (std_eq_self hO _)
            obtain ⟨hg111, h2⟩ := grdS h2
            refine ⟨inr_of hO hg111, ?_⟩
            cases h2
            try dsimp only at h1
            refine ⟨nz_of hO hg93, ?_⟩
            refine ⟨nz_of hO hg93, ?_⟩
            obtain ⟨b21, hv, h1⟩ := bindS h1
            refine call_is hO hX (hmr hO hv) hcB [] rfl trivial rfl ?_
            cbv
            obtain ⟨x98, h2, h1⟩ := bindS h1
            rcases condS h2 with ⟨hc112, h2⟩ | ⟨hc112, h2⟩
            · as_aux_lemma =>
              rw [hc112]
              cbv
              cases h2
              try dsimp only at h1
              obtain ⟨l65, h2, h1⟩ := bindS h1
              rcases condS h2 with ⟨hc113, h2⟩ | ⟨hc113, h2⟩
              · rw [hc113]
                cbv
                obtain ⟨hg114, h2⟩ := grdS h2
                refine ⟨room_of hO hg114, ?_⟩
                obtain ⟨hg115, h2⟩ := grdS h2
                refine ⟨room_of hO hg115, ?_⟩
                cases h2
                try dsimp only at h1
                cases h1
                exact ⟨_, [0, 1, 2, 5], nextI hI1 hi1, by cbv; try simp, by first | exact Nat.lt_succ_self _ | omega⟩
              · rw [hc113]
                cbv
                obtain ⟨x100, h3, h2⟩ := bindS h2
                rcases condS h3 with ⟨hc116, h3⟩ | ⟨hc116, h3⟩
                · rw [hc116]
                  cbv
                  rw [show (O .not false) = true from by subst hO; rfl]
                  cbv
                  cases h3
                  try dsimp only at h2
                  obtain ⟨l63, h3, h2⟩ := bindS h2
                  replace h3 := condT h3 (by rw [hc113]; subst hO; rfl)
                  obtain ⟨hg117, h3⟩ := grdS h3
                  refine ⟨inr_of hO hg117, ?_⟩
                  obtain ⟨hg118, h3⟩ := grdS h3
                  refine ⟨idx_of hO hg118, ?_⟩
                  obtain ⟨hg119, h3⟩ := grdS h3
                  refine ⟨kin_of hO hg119, ?_⟩
                  cases h3
                  try dsimp only at h2
                  cases h2
                  try dsimp only at h1
                  cases h1
                  exact ⟨_, [0, 1, 2, 3], nextI hI1 hi1, by cbv; try simp, by first | exact Nat.lt_succ_self _ | omega⟩
                · rw [hc116]
                  cbv
                  cases h3
                  try dsimp only at h2
                  obtain ⟨l63, h3, h2⟩ := bindS h2
                  replace h3 := condF h3 rfl
                  cases h3
                  try dsimp only at h2
                  cases h2
                  try dsimp only at h1
                  cases h1
                  exact ⟨_, [0, 1, 2, 3], nextI hI1 hi1, by cbv; try simp, by first | exact Nat.lt_succ_self _ | omega⟩
            · as_aux_lemma =>
              rw [hc112]
              cbv
              cases h2
              try dsimp only at h1
              obtain ⟨l65, h2, h1⟩ := bindS h1
              replace h2 := condF h2 rfl
              obtain ⟨x100, h3, h2⟩ := bindS h2
              rcases condS h3 with ⟨hc120, h3⟩ | ⟨hc120, h3⟩
              · rw [hc120]
                cbv
                cases h3
                try dsimp only at h2
                obtain ⟨l63, h3, h2⟩ := bindS h2
                rcases condS h3 with ⟨hc121, h3⟩ | ⟨hc121, h3⟩
                · rw [hc121]
                  cbv
                  obtain ⟨hg122, h3⟩ := grdS h3
                  refine ⟨inr_of hO hg122, ?_⟩
                  obtain ⟨hg123, h3⟩ := grdS h3
                  refine ⟨idx_of hO hg123, ?_⟩
                  obtain ⟨hg124, h3⟩ := grdS h3
                  refine ⟨kin_of hO hg124, ?_⟩
                  cases h3
                  try dsimp only at h2
                  cases h2
                  try dsimp only at h1
                  cases h1
                  exact ⟨_, [0, 1, 2, 3], nextI hI1 hi1, by cbv; try simp, by first | exact Nat.lt_succ_self _ | omega⟩
                · rw [hc121]
                  cbv
                  cases h3
                  try dsimp only at h2
                  cases h2
                  try dsimp only at h1
                  cases h1
                  exact ⟨_, [0, 1, 2, 3], nextI hI1 hi1, by cbv; try simp, by first | exact Nat.lt_succ_self _ | omega⟩
              · rw [hc120]
                cbv
                cases h3
                try dsimp only at h2
                obtain ⟨l63, h3, h2⟩ := bindS h2
                replace h3 := condF h3 rfl
                cases h3
                try dsimp only at h2
                cases h2
                try dsimp only at h1
                cases h1
                exact ⟨_, [0, 1, 2, 3], nextI hI1 hi1, by cbv; try simp, by first | exact Nat.lt_succ_self _ | omega⟩
        · as_aux_lemma =>
          rw [hc94]
          cbv
          rw [show (O .eq n26 n26) = true from std_eq_self hO _]
          cbv
          cases h2
          try dsimp only at h1
          obtain ⟨i6, h2, h1⟩ := bindS h1
          replace h2 := condF h2 rfl
          cases h2
          try dsimp only at h1
          obtain ⟨x96, h2, h1⟩ := bindS h1
          replace h2 := condT h2 rfl
          cases h2
          try dsimp only at h1
          obtain ⟨k6, h2, h1⟩ := bindS h1
          replace h2 := condT h2 (std_eq_self hO _)
          obtain ⟨hg125, h2⟩ := grdS h2
          refine ⟨inr_of hO hg125, ?_⟩
          cases h2
          try dsimp only at h1
          refine ⟨nz_of hO hg93, ?_⟩
          refine ⟨nz_of hO hg93, ?_⟩
          obtain ⟨b21, hv, h1⟩ := bindS h1
          refine call_is hO hX (hmr hO hv) hcB [] rfl trivial rfl ?_
          cbv
          obtain ⟨x98, h2, h1⟩ := bindS h1
          rcases condS h2 with ⟨hc126, h2⟩ | ⟨hc126, h2⟩
          · as_aux_lemma =>
            rw [hc126]
            cbv
            cases h2
            try dsimp only at h1
            obtain ⟨l65, h2, h1⟩ := bindS h1
            rcases condS h2 with ⟨hc127, h2⟩ | ⟨hc127, h2⟩
            · rw [hc127]
              cbv
              obtain ⟨hg128, h2⟩ := grdS h2
              refine ⟨room_of hO hg128, ?_⟩
              obtain ⟨hg129, h2⟩ := grdS h2
              refine ⟨room_of hO hg129, ?_⟩
              cases h2
              try dsimp only at h1
              cases h1
              exact ⟨_, [0, 1, 2, 5], nextI hI1 hi1, by cbv; try simp, by first | exact Nat.lt_succ_self _ | omega⟩
            · rw [hc127]
              cbv
              obtain ⟨x100, h3, h2⟩ := bindS h2
              rcases condS h3 with ⟨hc130, h3⟩ | ⟨hc130, h3⟩
              · rw [hc130]
                cbv
                rw [show (O .not false) = true from by subst hO; rfl]
                cbv
                cases h3
                try dsimp only at h2
                obtain ⟨l63, h3, h2⟩ := bindS h2
                replace h3 := condT h3 (by rw [hc127]; subst hO; rfl)
                obtain ⟨hg131, h3⟩ := grdS h3
                refine ⟨inr_of hO hg131, ?_⟩
                obtain ⟨hg132, h3⟩ := grdS h3
                refine ⟨idx_of hO hg132, ?_⟩
                obtain ⟨hg133, h3⟩ := grdS h3
                refine ⟨kin_of hO hg133, ?_⟩
                cases h3
                try dsimp only at h2
                cases h2
                try dsimp only at h1
                cases h1
                exact ⟨_, [0, 1, 2, 3], nextI hI1 hi1, by cbv; try simp, by first | exact Nat.lt_succ_self _ | omega⟩
              · rw [hc130]
                cbv
                cases h3
                try dsimp only at h2
                obtain ⟨l63, h3, h2⟩ := bindS h2
                replace h3 := condF h3 rfl
                cases h3
                try dsimp only at h2
                cases h2
                try dsimp only at h1
                cases h1
                exact ⟨_, [0, 1, 2, 3], nextI hI1 hi1, by cbv; try simp, by first | exact Nat.lt_succ_self _ | omega⟩
          · as_aux_lemma =>
            rw [hc126]
            cbv
            cases h2
            try dsimp only at h1
            obtain ⟨l65, h2, h1⟩ := bindS h1
            replace h2 := condF h2 rfl
            obtain ⟨x100, h3, h2⟩ := bindS h2
            rcases condS h3 with ⟨hc134, h3⟩ | ⟨hc134, h3⟩
            · rw [hc134]
              cbv
              cases h3
              try dsimp only at h2
              obtain ⟨l63, h3, h2⟩ := bindS h2
              rcases condS h3 with ⟨hc135, h3⟩ | ⟨hc135, h3⟩
              · rw [hc135]
                cbv
                obtain ⟨hg136, h3⟩ := grdS h3
                refine ⟨inr_of hO hg136, ?_⟩
                obtain ⟨hg137, h3⟩ := grdS h3
                refine ⟨idx_of hO hg137, ?_⟩
                obtain ⟨hg138, h3⟩ := grdS h3
                refine ⟨kin_of hO hg138, ?_⟩
                cases h3
                try dsimp only at h2
                cases h2
                try dsimp only at h1
                cases h1
                exact ⟨_, [0, 1, 2, 3], nextI hI1 hi1, by cbv; try simp, by first | exact Nat.lt_succ_self _ | omega⟩
              · rw [hc135]
                cbv
                cases h3
                try dsimp only at h2
                cases h2
                try dsimp only at h1
                cases h1
                exact ⟨_, [0, 1, 2, 3], nextI hI1 hi1, by cbv; try simp, by first | exact Nat.lt_succ_self _ | omega⟩
            · rw [hc134]
              cbv
              cases h3
              try dsimp only at h2
              obtain ⟨l63, h3, h2⟩ := bindS h2
              replace h3 := condF h3 rfl
              cases h3
              try dsimp only at h2
              cases h2
              try dsimp only at h1
              cases h1
              exact ⟨_, [0, 1, 2, 3], nextI hI1 hi1, by cbv; try simp, by first | exact Nat.lt_succ_self _ | omega⟩
      · as_aux_lemma =>
        rw [hc92]
        cbv
        cases h2
        try dsimp only at h1
        obtain ⟨hg139, h1⟩ := grdS h1
        refine ⟨nz_of hO hg139, ?_⟩
        refine ⟨nz_of hO hg139, ?_⟩
        obtain ⟨b20, hv, h1⟩ := bindS h1
        refine call_is hO hX (hmr hO hv) hcB [] rfl trivial rfl ?_
        cbv
        obtain ⟨x94, h2, h1⟩ := bindS h1
        rcases condS h2 with ⟨hc140, h2⟩ | ⟨hc140, h2⟩
        · as_aux_lemma =>
          rw [hc140]
          cbv
          rw [show (O .eq n25 n25) = true from std_eq_self hO _]
          cbv
          cases h2
          try dsimp only at h1
          obtain ⟨i6, h2, h1⟩ := bindS h1
          replace h2 := condT h2 (std_eq_self hO _)
          obtain ⟨hg141, h2⟩ := grdS h2
          refine ⟨inr_of hO hg141, ?_⟩
          cases h2
          try dsimp only at h1
          obtain ⟨x96, h2, h1⟩ := bindS h1
          replace h2 := condT h2 rfl
          cases h2
          try dsimp only at h1
          obtain ⟨k6, h2, h1⟩ := bindS h1
          rcases condS h2 with ⟨hc142, h2⟩ | ⟨hc142, h2⟩
          · as_aux_lemma =>
            rw [hc142]
            cbv
            obtain ⟨hg143, h2⟩ := grdS h2
            refine ⟨inr_of hO hg143, ?_⟩
            cases h2
            try dsimp only at h1
            refine ⟨nz_of hO hg139, ?_⟩
            refine ⟨nz_of hO hg139, ?_⟩
            obtain ⟨b21, hv, h1⟩ := bindS h1
            refine call_is hO hX (hmr hO hv) hcB [] rfl trivial rfl ?_
            cbv
            obtain ⟨x98, h2, h1⟩ := bindS h1
            rcases condS h2 with ⟨hc144, h2⟩ | ⟨hc144, h2⟩
            · as_aux_lemma =>
              rw [hc144]
              cbv
              cases h2
              try dsimp only at h1
              obtain ⟨l65, h2, h1⟩ := bindS h1
              rcases condS h2 with ⟨hc145, h2⟩ | ⟨hc145, h2⟩
              · rw [hc145]
                cbv
                obtain ⟨hg146, h2⟩ := grdS h2
                refine ⟨room_of hO hg146, ?_⟩
                obtain ⟨hg147, h2⟩ := grdS h2
                refine ⟨room_of hO hg147, ?_⟩
                cases h2
                try dsimp only at h1
                cases h1
                exact ⟨_, [0, 1, 2, 5], nextI hI1 hi1, by cbv; try simp, by first | exact Nat.lt_succ_self _ | omega⟩
              · rw [hc145]
                cbv
                obtain ⟨x100, h3, h2⟩ := bindS h2
                rcases condS h3 with ⟨hc148, h3⟩ | ⟨hc148, h3⟩
                · rw [hc148]
                  cbv
                  rw [show (O .not false) = true from by subst hO; rfl]
                  cbv
                  cases h3
                  try dsimp only at h2
                  obtain ⟨l63, h3, h2⟩ := bindS h2
                  replace h3 := condT h3 (by rw [hc145]; subst hO; rfl)
                  obtain ⟨hg149, h3⟩ := grdS h3
                  refine ⟨inr_of hO hg149, ?_⟩
                  obtain ⟨hg150, h3⟩ := grdS h3
                  refine ⟨idx_of hO hg150, ?_⟩
                  obtain ⟨hg151, h3⟩ := grdS h3
                  refine ⟨kin_of hO hg151, ?_⟩
                  cases h3
                  try dsimp only at h2
                  cases h2
                  try dsimp only at h1
                  cases h1
                  exact ⟨_, [0, 1, 2, 3], nextI hI1 hi1, by cbv; try simp, by first | exact Nat.lt_succ_self _ | omega⟩
                · rw [hc148]
                  cbv
                  cases h3
                  try dsimp only at h2
                  obtain ⟨l63, h3, h2⟩ := bindS h2
                  replace h3 := condF h3 rfl
                  cases h3
                  try dsimp only at h2
                  cases h2
                  try dsimp only at h1
                  cases h1
                  exact ⟨_, [0, 1, 2, 3], nextI hI1 hi1, by cbv; try simp, by first | exact Nat.lt_succ_self _ | omega⟩
            · as_aux_lemma =>
              rw [hc144]
              cbv
              cases h2
              try dsimp only at h1
              obtain ⟨l65, h2, h1⟩ := bindS h1
              replace h2 := condF h2 rfl
              obtain ⟨x100, h3, h2⟩ := bindS h2
              rcases condS h3 with ⟨hc152, h3⟩ | ⟨hc152, h3⟩
              · rw [hc152]
                cbv
                cases h3
                try dsimp only at h2
                obtain ⟨l63, h3, h2⟩ := bindS h2
                rcases condS h3 with ⟨hc153, h3⟩ | ⟨hc153, h3⟩
                · rw [hc153]
                  cbv
                  obtain ⟨hg154, h3⟩ := grdS h3
                  refine ⟨inr_of hO hg154, ?_⟩
                  obtain ⟨hg155, h3⟩ := grdS h3
                  refine ⟨idx_of hO hg155, ?_⟩
                  obtain ⟨hg156, h3⟩ := grdS h3
                  refine ⟨kin_of hO hg156, ?_⟩
                  cases h3
                  try dsimp only at h2
                  cases h2
                  try dsimp only at h1
                  cases h1
                  exact ⟨_, [0, 1, 2, 3], nextI hI1 hi1, by cbv; try simp, by first | exact Nat.lt_succ_self _ | omega⟩
                · rw [hc153]
                  cbv
                  cases h3
                  try dsimp only at h2
                  cases h2
                  try dsimp only at h1
                  cases h1
                  exact ⟨_, [0, 1, 2, 3], nextI hI1 hi1, by cbv; try simp, by first | exact Nat.lt_succ_self _ | omega⟩
              · rw [hc152]
                cbv
                cases h3
                try dsimp only at h2
                obtain ⟨l63, h3, h2⟩ := bindS h2
                replace h3 := condF h3 rfl
                cases h3
                try dsimp only at h2
                cases h2
                try dsimp only at h1
                cases h1
                exact ⟨_, [0, 1, 2, 3], nextI hI1 hi1, by cbv; try simp, by first | exact Nat.lt_succ_self _ | omega⟩
          · as_aux_lemma =>
            rw [hc142]
            cbv
            cases h2
            try dsimp only at h1
            refine ⟨nz_of hO hg139, ?_⟩
            refine ⟨nz_of hO hg139, ?_⟩
            obtain ⟨b21, hv, h1⟩ := bindS h1
            refine call_is hO hX (hmr hO hv) hcB [] rfl trivial rfl ?_
            cbv
            obtain ⟨x98, h2, h1⟩ := bindS h1
            rcases condS h2 with ⟨hc157, h2⟩ | ⟨hc157, h2⟩
            · as_aux_lemma =>
              rw [hc157]
              cbv
              cases h2
              try dsimp only at h1
              obtain ⟨l65, h2, h1⟩ := bindS h1
              rcases condS h2 with ⟨hc158, h2⟩ | ⟨hc158, h2⟩
              · rw [hc158]
                cbv
                obtain ⟨hg159, h2⟩ := grdS h2
                refine ⟨room_of hO hg159, ?_⟩
                obtain ⟨hg160, h2⟩ := grdS h2
                refine ⟨room_of hO hg160, ?_⟩
                cases h2
                try dsimp only at h1
                cases h1
                exact ⟨_, [0, 1, 2, 5], nextI hI1 hi1, by cbv; try simp, by first | exact Nat.lt_succ_self _ | omega⟩
              · rw [hc158]
                cbv
                obtain ⟨x100, h3, h2⟩ := bindS h2
                rcases condS h3 with ⟨hc161, h3⟩ | ⟨hc161, h3⟩
                · rw [hc161]
                  cbv
                  rw [show (O .not false) = true from by subst hO; rfl]
                  cbv
                  cases h3
                  try dsimp only at h2
                  obtain ⟨l63, h3, h2⟩ := bindS h2
                  replace h3 := condT h3 (by rw [hc158]; subst hO; rfl)
                  obtain ⟨hg162, h3⟩ := grdS h3
                  refine ⟨inr_of hO hg162, ?_⟩
                  obtain ⟨hg163, h3⟩ := grdS h3
                  refine ⟨idx_of hO hg163, ?_⟩
                  obtain ⟨hg164, h3⟩ := grdS h3
                  refine ⟨kin_of hO hg164, ?_⟩
                  cases h3
                  try dsimp only at h2
                  cases h2
                  try dsimp only at h1
                  cases h1
                  exact ⟨_, [0, 1, 2, 3], nextI hI1 hi1, by cbv; try simp, by first | exact Nat.lt_succ_self _ | omega⟩
                · rw [hc161]
                  cbv
                  cases h3
                  try dsimp only at h2
                  obtain ⟨l63, h3, h2⟩ := bindS h2
                  replace h3 := condF h3 rfl
                  cases h3
                  try dsimp only at h2
                  cases h2
                  try dsimp only at h1
                  cases h1
                  exact ⟨_, [0, 1, 2, 3], nextI hI1 hi1, by cbv; try simp, by first | exact Nat.lt_succ_self _ | omega⟩
            · as_aux_lemma =>
              rw [hc157]
              cbv
              cases h2
              try dsimp only at h1
              obtain ⟨l65, h2, h1⟩ := bindS h1
              replace h2 := condF h2 rfl
              obtain ⟨x100, h3, h2⟩ := bindS h2
              rcases condS h3 with ⟨hc165, h3⟩ | ⟨hc165, h3⟩
              · rw [hc165]
                cbv
                cases h3
                try dsimp only at h2
                obtain ⟨l63, h3, h2⟩ := bindS h2
                rcases condS h3 with ⟨hc166, h3⟩ | ⟨hc166, h3⟩
                · rw [hc166]
                  cbv
                  obtain ⟨hg167, h3⟩ := grdS h3
                  refine ⟨inr_of hO hg167, ?_⟩
                  obtain ⟨hg168, h3⟩ := grdS h3
                  refine ⟨idx_of hO hg168, ?_⟩
                  obtain ⟨hg169, h3⟩ := grdS h3
                  refine ⟨kin_of hO hg169, ?_⟩
                  cases h3
                  try dsimp only at h2
                  cases h2
                  try dsimp only at h1
                  cases h1
                  exact ⟨_, [0, 1, 2, 3], nextI hI1 hi1, by cbv; try simp, by first | exact Nat.lt_succ_self _ | omega⟩
                · rw [hc166]
                  cbv
                  cases h3
                  try dsimp only at h2
                  cases h2
                  try dsimp only at h1
                  cases h1
                  exact ⟨_, [0, 1, 2, 3], nextI hI1 hi1, by cbv; try simp, by first | exact Nat.lt_succ_self _ | omega⟩
              · rw [hc165]
                cbv
                cases h3
                try dsimp only at h2
                obtain ⟨l63, h3, h2⟩ := bindS h2
                replace h3 := condF h3 rfl
                cases h3
                try dsimp only at h2
                cases h2
                try dsimp only at h1
                cases h1
                exact ⟨_, [0, 1, 2, 3], nextI hI1 hi1, by cbv; try simp, by first | exact Nat.lt_succ_self _ | omega⟩
        · as_aux_lemma =>
          rw [hc140]
          cbv
          cases h2
          try dsimp only at h1
          obtain ⟨i6, h2, h1⟩ := bindS h1
          replace h2 := condF h2 rfl
          cases h2
          try dsimp only at h1
          obtain ⟨x96, h2, h1⟩ := bindS h1
          replace h2 := condT h2 rfl
          cases h2
          try dsimp only at h1
          obtain ⟨k6, h2, h1⟩ := bindS h1
          rcases condS h2 with ⟨hc170, h2⟩ | ⟨hc170, h2⟩
          · as_aux_lemma =>
            rw [hc170]
            cbv
            obtain ⟨hg171, h2⟩ := grdS h2
            refine ⟨inr_of hO hg171, ?_⟩
            cases h2
            try dsimp only at h1
            refine ⟨nz_of hO hg139, ?_⟩
            refine ⟨nz_of hO hg139, ?_⟩
            obtain ⟨b21, hv, h1⟩ := bindS h1
            refine call_is hO hX (hmr hO hv) hcB [] rfl trivial rfl ?_
            cbv
            obtain ⟨x98, h2, h1⟩ := bindS h1
            rcases condS h2 with ⟨hc172, h2⟩ | ⟨hc172, h2⟩
            · as_aux_lemma =>
              rw [hc172]
              cbv
              cases h2
              try dsimp only at h1
              obtain ⟨l65, h2, h1⟩ := bindS h1
              rcases condS h2 with ⟨hc173, h2⟩ | ⟨hc173, h2⟩
              · rw [hc173]
                cbv
                obtain ⟨hg174, h2⟩ := grdS h2
                refine ⟨room_of hO hg174, ?_⟩
                obtain ⟨hg175, h2⟩ := grdS h2
                refine ⟨room_of hO hg175, ?_⟩
                cases h2
                try dsimp only at h1
                cases h1
                exact ⟨_, [0, 1, 2, 5], nextI hI1 hi1, by cbv; try simp, by first | exact Nat.lt_succ_self _ | omega⟩
              · rw [hc173]
                cbv
                obtain ⟨x100, h3, h2⟩ := bindS h2
                rcases condS h3 with ⟨hc176, h3⟩ | ⟨hc176, h3⟩
                · rw [hc176]
                  cbv
                  rw [show (O .not false) = true from by subst hO; rfl]
                  cbv
                  cases h3
                  try dsimp only at h2
                  obtain ⟨l63, h3, h2⟩ := bindS h2
                  replace h3 := condT h3 (by rw [hc173]; subst hO; rfl)
                  obtain ⟨hg177, h3⟩ := grdS h3
                  refine ⟨inr_of hO hg177, ?_⟩
                  obtain ⟨hg178, h3⟩ := grdS h3
                  refine ⟨idx_of hO hg178, ?_⟩
                  obtain ⟨hg179, h3⟩ := grdS h3
                  refine ⟨kin_of hO hg179, ?_⟩
                  cases h3
                  try dsimp only at h2
                  cases h2
                  try dsimp only at h1
                  cases h1
                  exact ⟨_, [0, 1, 2, 3], nextI hI1 hi1, by cbv; try simp, by first | exact Nat.lt_succ_self _ | omega⟩
                · rw [hc176]
                  cbv
                  cases h3
                  try dsimp only at h2
                  obtain ⟨l63, h3, h2⟩ := bindS h2
                  replace h3 := condF h3 rfl
                  cases h3
                  try dsimp only at h2
                  cases h2
                  try dsimp only at h1
                  cases h1
                  exact ⟨_, [0, 1, 2, 3], nextI hI1 hi1, by cbv; try simp, by first | exact Nat.lt_succ_self _ | omega⟩
            · as_aux_lemma =>
              rw [hc172]
              cbv
              cases h2
              try dsimp only at h1
              obtain ⟨l65, h2, h1⟩ := bindS h1
              replace h2 := condF h2 rfl
              obtain ⟨x100, h3, h2⟩ := bindS h2
              rcases condS h3 with ⟨hc180, h3⟩ | ⟨hc180, h3⟩
              · rw [hc180]
                cbv
                cases h3
                try dsimp only at h2
                obtain ⟨l63, h3, h2⟩ := bindS h2
                rcases condS h3 with ⟨hc181, h3⟩ | ⟨hc181, h3⟩
                · rw [hc181]
                  cbv
                  obtain ⟨hg182, h3⟩ := grdS h3
                  refine ⟨inr_of hO hg182, ?_⟩
                  obtain ⟨hg183, h3⟩ := grdS h3
                  refine ⟨idx_of hO hg183, ?_⟩
                  obtain ⟨hg184, h3⟩ := grdS h3
                  refine ⟨kin_of hO hg184, ?_⟩
                  cases h3
                  try dsimp only at h2
                  cases h2
                  try dsimp only at h1
                  cases h1
                  exact ⟨_, [0, 1, 2, 3], nextI hI1 hi1, by cbv; try simp, by first | exact Nat.lt_succ_self _ | omega⟩
                · rw [hc181]
                  cbv
                  cases h3
                  try dsimp only at h2
                  cases h2
                  try dsimp only at h1
                  cases h1
                  exact ⟨_, [0, 1, 2, 3], nextI hI1 hi1, by cbv; try simp, by first | exact Nat.lt_succ_self _ | omega⟩
              · rw [hc180]
                cbv
                cases h3
                try dsimp only at h2
                obtain ⟨l63, h3, h2⟩ := bindS h2
                replace h3 := condF h3 rfl
                cases h3
                try dsimp only at h2
                cases h2
                try dsimp only at h1
                cases h1
                exact ⟨_, [0, 1, 2, 3], nextI hI1 hi1, by cbv; try simp, by first | exact Nat.lt_succ_self _ | omega⟩
          · as_aux_lemma =>
            rw [hc170]
            cbv
            cases h2
            try dsimp only at h1
            refine ⟨nz_of hO hg139, ?_⟩
            refine ⟨nz_of hO hg139, ?_⟩
            obtain ⟨b21, hv, h1⟩ := bindS h1
            refine call_is hO hX (hmr hO hv) hcB [] rfl trivial rfl ?_
            cbv
            obtain ⟨x98, h2, h1⟩ := bindS h1
            rcases condS h2 with ⟨hc185, h2⟩ | ⟨hc185, h2⟩
            · as_aux_lemma =>
              rw [hc185]
              cbv
              cases h2
              try dsimp only at h1
              obtain ⟨l65, h2, h1⟩ := bindS h1
              rcases condS h2 with ⟨hc186, h2⟩ | ⟨hc186, h2⟩
              · rw [hc186]
                cbv
                obtain ⟨hg187, h2⟩ := grdS h2
                refine ⟨room_of hO hg187, ?_⟩
                obtain ⟨hg188, h2⟩ := grdS h2
                refine ⟨room_of hO hg188, ?_⟩
                cases h2
                try dsimp only at h1
                cases h1
                exact ⟨_, [0, 1, 2, 5], nextI hI1 hi1, by cbv; try simp, by first | exact Nat.lt_succ_self _ | omega⟩
              · rw [hc186]
                cbv
                obtain ⟨x100, h3, h2⟩ := bindS h2
                rcases condS h3 with ⟨hc189, h3⟩ | ⟨hc189, h3⟩
                · rw [hc189]
                  cbv
                  rw [show (O .not false) = true from by subst hO; rfl]
                  cbv
                  cases h3
                  try dsimp only at h2
                  obtain ⟨l63, h3, h2⟩ := bindS h2
                  replace h3 := condT h3 (by rw [hc186]; subst hO; rfl)
                  obtain ⟨hg190, h3⟩ := grdS h3
                  refine ⟨inr_of hO hg190, ?_⟩
                  obtain ⟨hg191, h3⟩ := grdS h3
                  refine ⟨idx_of hO hg191, ?_⟩
                  obtain ⟨hg192, h3⟩ := grdS h3
                  refine ⟨kin_of hO hg192, ?_⟩
                  cases h3
                  try dsimp only at h2
                  cases h2
                  try dsimp only at h1
                  cases h1
                  exact ⟨_, [0, 1, 2, 3], nextI hI1 hi1, by cbv; try simp, by first | exact Nat.lt_succ_self _ | omega⟩
                · rw [hc189]
                  cbv
                  cases h3
                  try dsimp only at h2
                  obtain ⟨l63, h3, h2⟩ := bindS h2
                  replace h3 := condF h3 rfl
                  cases h3
                  try dsimp only at h2
                  cases h2
                  try dsimp only at h1
                  cases h1
                  exact ⟨_, [0, 1, 2, 3], nextI hI1 hi1, by cbv; try simp, by first | exact Nat.lt_succ_self _ | omega⟩
            · as_aux_lemma =>
              rw [hc185]
              cbv
              cases h2
              try dsimp only at h1
              obtain ⟨l65, h2, h1⟩ := bindS h1
              replace h2 := condF h2 rfl
              obtain ⟨x100, h3, h2⟩ := bindS h2
              rcases condS h3 with ⟨hc193, h3⟩ | ⟨hc193, h3⟩
              · rw [hc193]
                cbv
                cases h3
                try dsimp only at h2
                obtain ⟨l63, h3, h2⟩ := bindS h2
                rcases condS h3 with ⟨hc194, h3⟩ | ⟨hc194, h3⟩
                · rw [hc194]
                  cbv
                  obtain ⟨hg195, h3⟩ := grdS h3
                  refine ⟨inr_of hO hg195, ?_⟩
                  obtain ⟨hg196, h3⟩ := grdS h3
                  refine ⟨idx_of hO hg196, ?_⟩
                  obtain ⟨hg197, h3⟩ := grdS h3
                  refine ⟨kin_of hO hg197, ?_⟩
                  cases h3
                  try dsimp only at h2
                  cases h2
                  try dsimp only at h1
                  cases h1
                  exact ⟨_, [0, 1, 2, 3], nextI hI1 hi1, by cbv; try simp, by first | exact Nat.lt_succ_self _ | omega⟩
                · rw [hc194]
                  cbv
                  cases h3
                  try dsimp only at h2
                  cases h2
                  try dsimp only at h1
                  cases h1
                  exact ⟨_, [0, 1, 2, 3], nextI hI1 hi1, by cbv; try simp, by first | exact Nat.lt_succ_self _ | omega⟩
              · rw [hc193]
                cbv
                cases h3
                try dsimp only at h2
                obtain ⟨l63, h3, h2⟩ := bindS h2
                replace h3 := condF h3 rfl
                cases h3
                try dsimp only at h2
                cases h2
                try dsimp only at h1
                cases h1
                exact ⟨_, [0, 1, 2, 3], nextI hI1 hi1, by cbv; try simp, by first | exact Nat.lt_succ_self _ | omega⟩
    · as_aux_lemma =>
      rw [hc91]
      cbv
      cases h2
      try dsimp only at h1
      obtain ⟨at6, h2, h1⟩ := bindS h1
      replace h2 := condF h2 rfl
      cases h2
      try dsimp only at h1
      obtain ⟨hg198, h1⟩ := grdS h1
      refine ⟨nz_of hO hg198, ?_⟩
      refine ⟨nz_of hO hg198, ?_⟩
      obtain ⟨b20, hv, h1⟩ := bindS h1
      refine call_is hO hX (hmr hO hv) hcB [] rfl trivial rfl ?_
      cbv
      obtain ⟨x94, h2, h1⟩ := bindS h1
      rcases condS h2 with ⟨hc199, h2⟩ | ⟨hc199, h2⟩
      · as_aux_lemma =>
        rw [hc199]
        cbv
        rw [show (O .eq n25 n25) = true from std_eq_self hO _]
        cbv
        cases h2
        try dsimp only at h1
        obtain ⟨i6, h2, h1⟩ := bindS h1
        replace h2 := condT h2 (std_eq_self hO _)
        obtain ⟨hg200, h2⟩ := grdS h2
        refine ⟨inr_of hO hg200, ?_⟩
        cases h2
        try dsimp only at h1
        obtain ⟨x96, h2, h1⟩ := bindS h1
        replace h2 := condF h2 rfl
        cases h2
        try dsimp only at h1
        obtain ⟨k6, h2, h1⟩ := bindS h1
        replace h2 := condF h2 rfl
        cases h2
        try dsimp only at h1
        refine ⟨nz_of hO hg198, ?_⟩
        refine ⟨nz_of hO hg198, ?_⟩
        obtain ⟨b21, hv, h1⟩ := bindS h1
        refine call_is hO hX (hmr hO hv) hcB [] rfl trivial rfl ?_
        cbv
        obtain ⟨x98, h2, h1⟩ := bindS h1
        rcases condS h2 with ⟨hc201, h2⟩ | ⟨hc201, h2⟩
        · as_aux_lemma =>
          rw [hc201]
          cbv
          cases h2
          try dsimp only at h1
          obtain ⟨l65, h2, h1⟩ := bindS h1
          rcases condS h2 with ⟨hc202, h2⟩ | ⟨hc202, h2⟩
          · rw [hc202]
            cbv
            obtain ⟨hg203, h2⟩ := grdS h2
            refine ⟨room_of hO hg203, ?_⟩
            obtain ⟨hg204, h2⟩ := grdS h2
            refine ⟨room_of hO hg204, ?_⟩
            cases h2
            try dsimp only at h1
            cases h1
            exact ⟨_, [0, 1, 2, 5], nextI hI1 hi1, by cbv; try simp, by first | exact Nat.lt_succ_self _ | omega⟩
          · rw [hc202]
            cbv
            obtain ⟨x100, h3, h2⟩ := bindS h2
            rcases condS h3 with ⟨hc205, h3⟩ | ⟨hc205, h3⟩
            · rw [hc205]
              cbv
              rw [show (O .not false) = true from by subst hO; rfl]
              cbv
              cases h3
              try dsimp only at h2
              obtain ⟨l63, h3, h2⟩ := bindS h2
              replace h3 := condT h3 (by rw [hc202]; subst hO; rfl)
              obtain ⟨hg206, h3⟩ := grdS h3
              refine ⟨inr_of hO hg206, ?_⟩
              obtain ⟨hg207, h3⟩ := grdS h3
              refine ⟨idx_of hO hg207, ?_⟩
              obtain ⟨hg208, h3⟩ := grdS h3
              refine ⟨kin_of hO hg208, ?_⟩
              cases h3
              try dsimp only at h2
              cases h2
              try dsimp only at h1
              cases h1
              exact ⟨_, [0, 1, 2, 3], nextI hI1 hi1, by cbv; try simp, by first | exact Nat.lt_succ_self _ | omega⟩
            · rw [hc205]
              cbv
              cases h3
              try dsimp only at h2
              obtain ⟨l63, h3, h2⟩ := bindS h2
              replace h3 := condF h3 rfl
              cases h3
              try dsimp only at h2
              cases h2
              try dsimp only at h1
              cases h1
              exact ⟨_, [0, 1, 2, 3], nextI hI1 hi1, by cbv; try simp, by first | exact Nat.lt_succ_self _ | omega⟩
        · as_aux_lemma =>
          rw [hc201]
          cbv
          cases h2
          try dsimp only at h1
          obtain ⟨l65, h2, h1⟩ := bindS h1
          replace h2 := condF h2 rfl
          obtain ⟨x100, h3, h2⟩ := bindS h2
          rcases condS h3 with ⟨hc209, h3⟩ | ⟨hc209, h3⟩
          · rw [hc209]
            cbv
            cases h3
            try dsimp only at h2
            obtain ⟨l63, h3, h2⟩ := bindS h2
            rcases condS h3 with ⟨hc210, h3⟩ | ⟨hc210, h3⟩
            · rw [hc210]
              cbv
              obtain ⟨hg211, h3⟩ := grdS h3
              refine ⟨inr_of hO hg211, ?_⟩
              obtain ⟨hg212, h3⟩ := grdS h3
              refine ⟨idx_of hO hg212, ?_⟩
              obtain ⟨hg213, h3⟩ := grdS h3
              refine ⟨kin_of hO hg213, ?_⟩
              cases h3
              try dsimp only at h2
              cases h2
              try dsimp only at h1
              cases h1
              exact ⟨_, [0, 1, 2, 3], nextI hI1 hi1, by cbv; try simp, by first | exact Nat.lt_succ_self _ | omega⟩
            · rw [hc210]
              cbv
              cases h3
              try dsimp only at h2
              cases h2
              try dsimp only at h1
              cases h1
              exact ⟨_, [0, 1, 2, 3], nextI hI1 hi1, by cbv; try simp, by first | exact Nat.lt_succ_self _ | omega⟩
          · rw [hc209]
            cbv
            cases h3
            try dsimp only at h2
            obtain ⟨l63, h3, h2⟩ := bindS h2
            replace h3 := condF h3 rfl
            cases h3
            try dsimp only at h2
            cases h2
            try dsimp only at h1
            cases h1
            exact ⟨_, [0, 1, 2, 3], nextI hI1 hi1, by cbv; try simp, by first | exact Nat.lt_succ_self _ | omega⟩
      · as_aux_lemma =>
        rw [hc199]
        cbv
        cases h2
        try dsimp only at h1
        obtain ⟨i6, h2, h1⟩ := bindS h1
        replace h2 := condF h2 rfl
        cases h2
        try dsimp only at h1
        obtain ⟨x96, h2, h1⟩ := bindS h1
        replace h2 := condF h2 rfl
        cases h2
        try dsimp only at h1
        obtain ⟨k6, h2, h1⟩ := bindS h1
        replace h2 := condF h2 rfl
        cases h2
        try dsimp only at h1
        refine ⟨nz_of hO hg198, ?_⟩
        refine ⟨nz_of hO hg198, ?_⟩
        obtain ⟨b21, hv, h1⟩ := bindS h1
        refine call_is hO hX (hmr hO hv) hcB [] rfl trivial rfl ?_
        cbv
        obtain ⟨x98, h2, h1⟩ := bindS h1
        rcases condS h2 with ⟨hc214, h2⟩ | ⟨hc214, h2⟩
        · as_aux_lemma =>
          rw [hc214]
          cbv
          cases h2
          try dsimp only at h1
          obtain ⟨l65, h2, h1⟩ := bindS h1
          rcases condS h2 with ⟨hc215, h2⟩ | ⟨hc215, h2⟩
          · rw [hc215]
            cbv
            obtain ⟨hg216, h2⟩ := grdS h2
            refine ⟨room_of hO hg216, ?_⟩
            obtain ⟨hg217, h2⟩ := grdS h2
            refine ⟨room_of hO hg217, ?_⟩
            cases h2
            try dsimp only at h1
            cases h1
            exact ⟨_, [0, 1, 2, 5], nextI hI1 hi1, by cbv; try simp, by first | exact Nat.lt_succ_self _ | omega⟩
          · rw [hc215]
            cbv
            obtain ⟨x100, h3, h2⟩ := bindS h2
            rcases condS h3 with ⟨hc218, h3⟩ | ⟨hc218, h3⟩
            · rw [hc218]
              cbv
              rw [show (O .not false) = true from by subst hO; rfl]
              cbv
              cases h3
              try dsimp only at h2
              obtain ⟨l63, h3, h2⟩ := bindS h2
              replace h3 := condT h3 (by rw [hc215]; subst hO; rfl)
              obtain ⟨hg219, h3⟩ := grdS h3
              refine ⟨inr_of hO hg219, ?_⟩
              obtain ⟨hg220, h3⟩ := grdS h3
              refine ⟨idx_of hO hg220, ?_⟩
              obtain ⟨hg221, h3⟩ := grdS h3
              refine ⟨kin_of hO hg221, ?_⟩
              cases h3
              try dsimp only at h2
              cases h2
              try dsimp only at h1
              cases h1
              exact ⟨_, [0, 1, 2, 3], nextI hI1 hi1, by cbv; try simp, by first | exact Nat.lt_succ_self _ | omega⟩
            · rw [hc218]
              cbv
              cases h3
              try dsimp only at h2
              obtain ⟨l63, h3, h2⟩ := bindS h2
              replace h3 := condF h3 rfl
              cases h3
              try dsimp only at h2
              cases h2
              try dsimp only at h1
              cases h1
              exact ⟨_, [0, 1, 2, 3], nextI hI1 hi1, by cbv; try simp, by first | exact Nat.lt_succ_self _ | omega⟩
        · as_aux_lemma =>
          rw [hc214]
          cbv
          cases h2
          try dsimp only at h1
          obtain ⟨l65, h2, h1⟩ := bindS h1
          replace h2 := condF h2 rfl
          obtain ⟨x100, h3, h2⟩ := bindS h2
          rcases condS h3 with ⟨hc222, h3⟩ | ⟨hc222, h3⟩
          · rw [hc222]
            cbv
            cases h3
            try dsimp only at h2
            obtain ⟨l63, h3, h2⟩ := bindS h2
            rcases condS h3 with ⟨hc223, h3⟩ | ⟨hc223, h3⟩
            · rw [hc223]
              cbv
              obtain ⟨hg224, h3⟩ := grdS h3
              refine ⟨inr_of hO hg224, ?_⟩
              obtain ⟨hg225, h3⟩ := grdS h3
              refine ⟨idx_of hO hg225, ?_⟩
              obtain ⟨hg226, h3⟩ := grdS h3
              refine ⟨kin_of hO hg226, ?_⟩
              cases h3
              try dsimp only at h2
              cases h2
              try dsimp only at h1
              cases h1
              exact ⟨_, [0, 1, 2, 3], nextI hI1 hi1, by cbv; try simp, by first | exact Nat.lt_succ_self _ | omega⟩
            · rw [hc223]
              cbv
              cases h3
              try dsimp only at h2
              cases h2
              try dsimp only at h1
              cases h1
              exact ⟨_, [0, 1, 2, 3], nextI hI1 hi1, by cbv; try simp, by first | exact Nat.lt_succ_self _ | omega⟩
          · rw [hc222]
            cbv
            cases h3
            try dsimp only at h2
            obtain ⟨l63, h3, h2⟩ := bindS h2
            replace h3 := condF h3 rfl
            cases h3
            try dsimp only at h2
            cases h2
            try dsimp only at h1
            cases h1
            exact ⟨_, [0, 1, 2, 3], nextI hI1 hi1, by cbv; try simp, by first | exact Nat.lt_succ_self _ | omega⟩
theorem fn_periodic_combine {O0 : Ops} (hO0 : O0 = std) {a_1 : List (Int × Int)} {b_1 : List (Int × Int)} {r1 : List (Int × Int)} (h : m_periodic_combine O0 a_1 b_1 = some r1) :
    Fn Try.prog 49 [.c (.sl 0), .c (.sl 1), .c (.fn 40 [])] [.arr false .i2 a_1, .arr false .i2 b_1] (fun v c => v = .c (.sl 2) ∧ c = [.own 29 .i2 r1]) :=
  fn_g_combine (by kernel_rfl) (@fun _ hO _ _ _ h => fn_periodic_Union_1 hO h) hO0 h
end Go.Proofs.Ytlpbdikmhngmfaa
