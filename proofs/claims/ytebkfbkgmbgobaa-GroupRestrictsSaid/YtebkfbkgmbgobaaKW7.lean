/-
  The code does what its models say (printed by lift.py).
-/
import Derived.Test.YtebkfbkgmbgobaaKM
import Derived.Test.YtebkfbkgmbgobaaManW
namespace Go.Proofs.Ytebkfbkgmbgobaa
open Go.RowKit
set_option maxRecDepth 100000

set_option maxHeartbeats 40000000 in
theorem fn_ref12_Ends {O0 : Ops} (hO0 : O0 = std) {l_1 : List (Int × Int)} {r1 : List Int} (h : m_ref12_Ends O0 l_1 = some r1) :
    Fn Try.prog 77 [.c (.sl 0)] [.arr false .i2 l_1] (fun v c => v = .c (.sl 1) ∧ c = [.own 3 .i1 r1]) := by
  refine fn_run tab_holds eqs_holds mixed [] Try.func77 (by kernel_rfl) (by kernel_rfl) (Nat.le_of_ble_eq_true rfl) ?_
  intro O X hO hX
  rw [hO0, ← hO] at h
  unfold m_ref12_Ends at h
  have h0 := h; clear h
  cbv
  obtain ⟨l73, hi, h0⟩ := bindS h0
  obtain ⟨I3, hI3, hi⟩ := loopS hi
  refine loop1 tab_holds eqs_holds mixed [] hO hX I3 (fun y => [(2, .junk), (3, .c (.sl 2)), (4, .c (.int .i64 y.2.1))]) (fun y => [(2, .own 3 .i1 y.2.2)]) (fun y => y.1) _ (by kernel_rfl) hi (by cbv; try simp) ?_
  refine allp ?_
  intro n3
  refine allp ?_
  intro i17
  intro l68 hi
  cbv
  rw [hI3] at hi
  obtain ⟨n3, rfl, x3, h1, hi3⟩ := iterS hi
  unfold m_ref12_Ends_L3 at h1
  try dsimp only at h1
  rcases condS h1 with ⟨hc1, h1⟩ | ⟨hc1, h1⟩
  · as_aux_lemma =>
    rw [hc1]
    cbv
    obtain ⟨l70, h2, h1⟩ := bindS h1
    obtain ⟨hg2, h2⟩ := grdS h2
    refine ⟨idx_of hO hg2, ?_⟩
    obtain ⟨hg3, h2⟩ := grdS h2
    refine ⟨kin_of hO hg3, ?_⟩
    refine call_inline tab_holds eqs_holds mixed [] hO hX (by kernel_rfl) Try.func88 (by kernel_rfl) (by kernel_rfl) rfl ?_
    intro X1 hX1 hF1
    cbv
    obtain ⟨i20, hi, h2⟩ := bindS h2
    obtain ⟨I1, hI1, hi⟩ := loopS hi
    refine loop1 tab_holds eqs_holds mixed [] hO hX1 I1 (fun y => [(4, .junk), (5, .c (.int .i64 y.2))]) (fun _ => []) (fun y => y.1) _ (by kernel_rfl) hi (by cbv; try simp) ?_
    refine allp ?_
    intro n1
    intro i19 hi
    cbv
    rw [hI1] at hi
    obtain ⟨n1, rfl, x1, h3, hi1⟩ := iterS hi
    unfold m_ref12_Ends_L1 at h3
    try dsimp only at h3
    obtain ⟨x155, h4, h3⟩ := bindS h3
    rcases condS h4 with ⟨hc4, h4⟩ | ⟨hc4, h4⟩
    · as_aux_lemma =>
      rw [hc4]
      cbv
      obtain ⟨hg5, h4⟩ := grdS h4
      refine ⟨inr_of hO hg5, ?_⟩
      obtain ⟨hg6, h4⟩ := grdS h4
      refine ⟨idx_of hO hg6, ?_⟩
      obtain ⟨hg7, h4⟩ := grdS h4
      refine ⟨kin_of hO hg7, ?_⟩
      cases h4
      try dsimp only at h3
      rcases condS h3 with ⟨hc8, h3⟩ | ⟨hc8, h3⟩
      · rw [hc8]
        cbv
        obtain ⟨hg9, h3⟩ := grdS h3
        refine ⟨inr_of hO hg9, ?_⟩
        cases h3
        exact ⟨_, [0, 1, 2, 3], nextI hI1 hi1, by cbv; try simp, by first | exact Nat.lt_succ_self _ | omega⟩
      · as_aux_lemma =>
        rw [hc8]
        cbv
        cases h3
        cases exitI hi1
        try dsimp only at h2
        obtain ⟨x157, h3, h2⟩ := bindS h2
        rcases condS h3 with ⟨hc10, h3⟩ | ⟨hc10, h3⟩
        · as_aux_lemma =>
          rw [hc10]
          cbv
          obtain ⟨hg11, h3⟩ := grdS h3
          refine ⟨idx_of hO hg11, ?_⟩
          obtain ⟨hg12, h3⟩ := grdS h3
          refine ⟨kin_of hO hg12, ?_⟩
          cases h3
          try dsimp only at h2
          rcases condS h2 with ⟨hc13, h2⟩ | ⟨hc13, h2⟩
          · as_aux_lemma =>
            rw [hc13]
            cbv
            refine hF1 _ _ ?_
            cbv
            cases h2
            try dsimp only at h1
            obtain ⟨l72, h2, h1⟩ := bindS h1
            refine ⟨idx_of hO hg2, ?_⟩
            refine ⟨kin_of hO hg3, ?_⟩
            refine call_inline tab_holds eqs_holds mixed [] hO hX (by kernel_rfl) Try.func88 (by kernel_rfl) (by kernel_rfl) rfl ?_
            intro X2 hX2 hF2
            cbv
            obtain ⟨i23, hi, h2⟩ := bindS h2
            obtain ⟨I2, hI2, hi⟩ := loopS hi
            refine loop1 tab_holds eqs_holds mixed [] hO hX2 I2 (fun y => [(4, .junk), (5, .c (.int .i64 y.2))]) (fun _ => []) (fun y => y.1) _ (by kernel_rfl) hi (by cbv; try simp) ?_
            refine allp ?_
            intro n2
            intro i22 hi
            cbv
            rw [hI2] at hi
            obtain ⟨n2, rfl, x2, h3, hi2⟩ := iterS hi
            unfold m_ref12_Ends_L2 at h3
            try dsimp only at h3
            obtain ⟨x161, h4, h3⟩ := bindS h3
            rcases condS h4 with ⟨hc14, h4⟩ | ⟨hc14, h4⟩
            · as_aux_lemma =>
              rw [hc14]
              cbv
              obtain ⟨hg15, h4⟩ := grdS h4
              refine ⟨inr_of hO hg15, ?_⟩
              obtain ⟨hg16, h4⟩ := grdS h4
              refine ⟨idx_of hO hg16, ?_⟩
              obtain ⟨hg17, h4⟩ := grdS h4
              refine ⟨kin_of hO hg17, ?_⟩
              cases h4
              try dsimp only at h3
              rcases condS h3 with ⟨hc18, h3⟩ | ⟨hc18, h3⟩
              · rw [hc18]
                cbv
                obtain ⟨hg19, h3⟩ := grdS h3
                refine ⟨inr_of hO hg19, ?_⟩
                cases h3
                exact ⟨_, [0, 1, 2, 3, 4], nextI hI2 hi2, by cbv; try simp, by first | exact Nat.lt_succ_self _ | omega⟩
              · as_aux_lemma =>
                rw [hc18]
                cbv
                cases h3
                cases exitI hi2
                try dsimp only at h2
                obtain ⟨x163, h3, h2⟩ := bindS h2
                rcases condS h3 with ⟨hc20, h3⟩ | ⟨hc20, h3⟩
                · as_aux_lemma =>
                  rw [hc20]
                  cbv
                  obtain ⟨hg21, h3⟩ := grdS h3
                  refine ⟨idx_of hO hg21, ?_⟩
                  obtain ⟨hg22, h3⟩ := grdS h3
                  refine ⟨kin_of hO hg22, ?_⟩
                  cases h3
                  try dsimp only at h2
                  rcases condS h2 with ⟨hc23, h2⟩ | ⟨hc23, h2⟩
                  · rw [hc23]
                    cbv
                    refine hF2 _ _ ?_
                    cbv
                    cases h2
                    try dsimp only at h1
                    obtain ⟨hg24, h1⟩ := grdS h1
                    refine ⟨inr_of hO hg24, ?_⟩
                    cases h1
                    exact ⟨_, [0, 1, 2], nextI hI3 hi3, by cbv; try simp, by first | exact Nat.lt_succ_self _ | omega⟩
                  · rw [hc23]
                    cbv
                    obtain ⟨hg25, h2⟩ := grdS h2
                    refine ⟨rng_of hO hg25, ?_⟩
                    obtain ⟨hg26, h2⟩ := grdS h2
                    refine ⟨room_of hO hg26, ?_⟩
                    obtain ⟨hg27, h2⟩ := grdS h2
                    refine ⟨room_of hO hg27, ?_⟩
                    obtain ⟨hg28, h2⟩ := grdS h2
                    refine ⟨room_of hO hg28, ?_⟩
                    obtain ⟨hg29, h2⟩ := grdS h2
                    refine ⟨room_of hO hg29, ?_⟩
                    refine ⟨rng_of hO hg25, ?_⟩
                    obtain ⟨hg30, h2⟩ := grdS h2
                    refine ⟨room_of hO hg30, ?_⟩
                    obtain ⟨hg31, h2⟩ := grdS h2
                    refine ⟨room_of hO hg31, ?_⟩
                    refine hF2 _ _ ?_
                    cbv
                    cases h2
                    try dsimp only at h1
                    obtain ⟨hg32, h1⟩ := grdS h1
                    refine ⟨inr_of hO hg32, ?_⟩
                    cases h1
                    exact ⟨_, [0, 1, 11], nextI hI3 hi3, by cbv; try simp, by first | exact Nat.lt_succ_self _ | omega⟩
                · rw [hc20]
                  cbv
                  cases h3
                  try dsimp only at h2
                  replace h2 := condF h2 rfl
                  obtain ⟨hg33, h2⟩ := grdS h2
                  refine ⟨rng_of hO hg33, ?_⟩
                  obtain ⟨hg34, h2⟩ := grdS h2
                  refine ⟨room_of hO hg34, ?_⟩
                  obtain ⟨hg35, h2⟩ := grdS h2
                  refine ⟨room_of hO hg35, ?_⟩
                  obtain ⟨hg36, h2⟩ := grdS h2
                  refine ⟨room_of hO hg36, ?_⟩
                  obtain ⟨hg37, h2⟩ := grdS h2
                  refine ⟨room_of hO hg37, ?_⟩
                  refine ⟨rng_of hO hg33, ?_⟩
                  obtain ⟨hg38, h2⟩ := grdS h2
                  refine ⟨room_of hO hg38, ?_⟩
                  obtain ⟨hg39, h2⟩ := grdS h2
                  refine ⟨room_of hO hg39, ?_⟩
                  refine hF2 _ _ ?_
                  cbv
                  cases h2
                  try dsimp only at h1
                  obtain ⟨hg40, h1⟩ := grdS h1
                  refine ⟨inr_of hO hg40, ?_⟩
                  cases h1
                  exact ⟨_, [0, 1, 11], nextI hI3 hi3, by cbv; try simp, by first | exact Nat.lt_succ_self _ | omega⟩
            · as_aux_lemma =>
              rw [hc14]
              cbv
              cases h4
              try dsimp only at h3
              replace h3 := condF h3 rfl
              cases h3
              cases exitI hi2
              try dsimp only at h2
              obtain ⟨x163, h3, h2⟩ := bindS h2
              rcases condS h3 with ⟨hc41, h3⟩ | ⟨hc41, h3⟩
              · as_aux_lemma =>
                rw [hc41]
                cbv
                obtain ⟨hg42, h3⟩ := grdS h3
                refine ⟨idx_of hO hg42, ?_⟩
                obtain ⟨hg43, h3⟩ := grdS h3
                refine ⟨kin_of hO hg43, ?_⟩
                cases h3
                try dsimp only at h2
                rcases condS h2 with ⟨hc44, h2⟩ | ⟨hc44, h2⟩
                · rw [hc44]
                  cbv
                  refine hF2 _ _ ?_
                  cbv
                  cases h2
                  try dsimp only at h1
                  obtain ⟨hg45, h1⟩ := grdS h1
                  refine ⟨inr_of hO hg45, ?_⟩
                  cases h1
                  exact ⟨_, [0, 1, 2], nextI hI3 hi3, by cbv; try simp, by first | exact Nat.lt_succ_self _ | omega⟩
                · rw [hc44]
                  cbv
                  obtain ⟨hg46, h2⟩ := grdS h2
                  refine ⟨rng_of hO hg46, ?_⟩
                  obtain ⟨hg47, h2⟩ := grdS h2
                  refine ⟨room_of hO hg47, ?_⟩
                  obtain ⟨hg48, h2⟩ := grdS h2
                  refine ⟨room_of hO hg48, ?_⟩
                  obtain ⟨hg49, h2⟩ := grdS h2
                  refine ⟨room_of hO hg49, ?_⟩
                  obtain ⟨hg50, h2⟩ := grdS h2
                  refine ⟨room_of hO hg50, ?_⟩
                  refine ⟨rng_of hO hg46, ?_⟩
                  obtain ⟨hg51, h2⟩ := grdS h2
                  refine ⟨room_of hO hg51, ?_⟩
                  obtain ⟨hg52, h2⟩ := grdS h2
                  refine ⟨room_of hO hg52, ?_⟩
                  refine hF2 _ _ ?_
                  cbv
                  cases h2
                  try dsimp only at h1
                  obtain ⟨hg53, h1⟩ := grdS h1
                  refine ⟨inr_of hO hg53, ?_⟩
                  cases h1
                  exact ⟨_, [0, 1, 11], nextI hI3 hi3, by cbv; try simp, by first | exact Nat.lt_succ_self _ | omega⟩
              · rw [hc41]
                cbv
                cases h3
                try dsimp only at h2
                replace h2 := condF h2 rfl
                obtain ⟨hg54, h2⟩ := grdS h2
                refine ⟨rng_of hO hg54, ?_⟩
                obtain ⟨hg55, h2⟩ := grdS h2
                refine ⟨room_of hO hg55, ?_⟩
                obtain ⟨hg56, h2⟩ := grdS h2
                refine ⟨room_of hO hg56, ?_⟩
                obtain ⟨hg57, h2⟩ := grdS h2
                refine ⟨room_of hO hg57, ?_⟩
                obtain ⟨hg58, h2⟩ := grdS h2
                refine ⟨room_of hO hg58, ?_⟩
                refine ⟨rng_of hO hg54, ?_⟩
                obtain ⟨hg59, h2⟩ := grdS h2
                refine ⟨room_of hO hg59, ?_⟩
                obtain ⟨hg60, h2⟩ := grdS h2
                refine ⟨room_of hO hg60, ?_⟩
                refine hF2 _ _ ?_
                cbv
                cases h2
                try dsimp only at h1
                obtain ⟨hg61, h1⟩ := grdS h1
                refine ⟨inr_of hO hg61, ?_⟩
                cases h1
                exact ⟨_, [0, 1, 11], nextI hI3 hi3, by cbv; try simp, by first | exact Nat.lt_succ_self _ | omega⟩
          · as_aux_lemma =>
            rw [hc13]
            cbv
            obtain ⟨hg62, h2⟩ := grdS h2
            refine ⟨rng_of hO hg62, ?_⟩
            obtain ⟨hg63, h2⟩ := grdS h2
            refine ⟨room_of hO hg63, ?_⟩
            obtain ⟨hg64, h2⟩ := grdS h2
            refine ⟨room_of hO hg64, ?_⟩
            obtain ⟨hg65, h2⟩ := grdS h2
            refine ⟨room_of hO hg65, ?_⟩
            obtain ⟨hg66, h2⟩ := grdS h2
            refine ⟨room_of hO hg66, ?_⟩
            refine ⟨rng_of hO hg62, ?_⟩
            obtain ⟨hg67, h2⟩ := grdS h2
            refine ⟨room_of hO hg67, ?_⟩
            obtain ⟨hg68, h2⟩ := grdS h2
            refine ⟨room_of hO hg68, ?_⟩
            refine hF1 _ _ ?_
            cbv
            cases h2
            try dsimp only at h1
            obtain ⟨l72, h2, h1⟩ := bindS h1
            refine ⟨idx_of hO hg2, ?_⟩
            refine ⟨kin_of hO hg3, ?_⟩
            refine call_inline tab_holds eqs_holds mixed [] hO hX (by kernel_rfl) Try.func88 (by kernel_rfl) (by kernel_rfl) rfl ?_
            intro X3 hX3 hF3
            cbv
            obtain ⟨i23, hi, h2⟩ := bindS h2
            obtain ⟨I2, hI2, hi⟩ := loopS hi
            refine loop1 tab_holds eqs_holds mixed [] hO hX3 I2 (fun y => [(4, .junk), (5, .c (.int .i64 y.2))]) (fun _ => []) (fun y => y.1) _ (by kernel_rfl) hi (by cbv; try simp) ?_
            refine allp ?_
            intro n2
            intro i22 hi
            cbv
            rw [hI2] at hi
            obtain ⟨n2, rfl, x2, h3, hi2⟩ := iterS hi
            unfold m_ref12_Ends_L2 at h3
            try dsimp only at h3
            obtain ⟨x161, h4, h3⟩ := bindS h3
            rcases condS h4 with ⟨hc69, h4⟩ | ⟨hc69, h4⟩
            · as_aux_lemma =>
              rw [hc69]
              cbv
              obtain ⟨hg70, h4⟩ := grdS h4
              refine ⟨inr_of hO hg70, ?_⟩
              obtain ⟨hg71, h4⟩ := grdS h4
              refine ⟨idx_of hO hg71, ?_⟩
              obtain ⟨hg72, h4⟩ := grdS h4
              refine ⟨kin_of hO hg72, ?_⟩
              cases h4
              try dsimp only at h3
              rcases condS h3 with ⟨hc73, h3⟩ | ⟨hc73, h3⟩
              · rw [hc73]
                cbv
                obtain ⟨hg74, h3⟩ := grdS h3
                refine ⟨inr_of hO hg74, ?_⟩
                cases h3
                exact ⟨_, [0, 1, 2, 3, 4, 5, 6, 7, 8, 9, 10, 11], nextI hI2 hi2, by cbv; try simp, by first | exact Nat.lt_succ_self _ | omega⟩
              · as_aux_lemma =>
                rw [hc73]
                cbv
                cases h3
                cases exitI hi2
                try dsimp only at h2
                obtain ⟨x163, h3, h2⟩ := bindS h2
                rcases condS h3 with ⟨hc75, h3⟩ | ⟨hc75, h3⟩
                · as_aux_lemma =>
                  rw [hc75]
                  cbv
                  obtain ⟨hg76, h3⟩ := grdS h3
                  refine ⟨idx_of hO hg76, ?_⟩
                  obtain ⟨hg77, h3⟩ := grdS h3
                  refine ⟨kin_of hO hg77, ?_⟩
                  cases h3
                  try dsimp only at h2
                  rcases condS h2 with ⟨hc78, h2⟩ | ⟨hc78, h2⟩
                  · rw [hc78]
                    cbv
                    refine hF3 _ _ ?_
                    cbv
                    cases h2
                    try dsimp only at h1
                    obtain ⟨hg79, h1⟩ := grdS h1
                    refine ⟨inr_of hO hg79, ?_⟩
                    cases h1
                    exact ⟨_, [0, 1, 10], nextI hI3 hi3, by cbv; try simp, by first | exact Nat.lt_succ_self _ | omega⟩
                  · rw [hc78]
                    cbv
                    obtain ⟨hg80, h2⟩ := grdS h2
                    refine ⟨rng_of hO hg80, ?_⟩
                    obtain ⟨hg81, h2⟩ := grdS h2
                    refine ⟨room_of hO hg81, ?_⟩
                    obtain ⟨hg82, h2⟩ := grdS h2
                    refine ⟨room_of hO hg82, ?_⟩
                    obtain ⟨hg83, h2⟩ := grdS h2
                    refine ⟨room_of hO hg83, ?_⟩
                    obtain ⟨hg84, h2⟩ := grdS h2
                    refine ⟨room_of hO hg84, ?_⟩
                    refine ⟨rng_of hO hg80, ?_⟩
                    obtain ⟨hg85, h2⟩ := grdS h2
                    refine ⟨room_of hO hg85, ?_⟩
                    obtain ⟨hg86, h2⟩ := grdS h2
                    refine ⟨room_of hO hg86, ?_⟩
                    refine hF3 _ _ ?_
                    cbv
                    cases h2
                    try dsimp only at h1
                    obtain ⟨hg87, h1⟩ := grdS h1
                    refine ⟨inr_of hO hg87, ?_⟩
                    cases h1
                    exact ⟨_, [0, 1, 18], nextI hI3 hi3, by cbv; try simp, by first | exact Nat.lt_succ_self _ | omega⟩
                · rw [hc75]
                  cbv
                  cases h3
                  try dsimp only at h2
                  replace h2 := condF h2 rfl
                  obtain ⟨hg88, h2⟩ := grdS h2
                  refine ⟨rng_of hO hg88, ?_⟩
                  obtain ⟨hg89, h2⟩ := grdS h2
                  refine ⟨room_of hO hg89, ?_⟩
                  obtain ⟨hg90, h2⟩ := grdS h2
                  refine ⟨room_of hO hg90, ?_⟩
                  obtain ⟨hg91, h2⟩ := grdS h2
                  refine ⟨room_of hO hg91, ?_⟩
                  obtain ⟨hg92, h2⟩ := grdS h2
                  refine ⟨room_of hO hg92, ?_⟩
                  refine ⟨rng_of hO hg88, ?_⟩
                  obtain ⟨hg93, h2⟩ := grdS h2
                  refine ⟨room_of hO hg93, ?_⟩
                  obtain ⟨hg94, h2⟩ := grdS h2
                  refine ⟨room_of hO hg94, ?_⟩
                  refine hF3 _ _ ?_
                  cbv
                  cases h2
                  try dsimp only at h1
                  obtain ⟨hg95, h1⟩ := grdS h1
                  refine ⟨inr_of hO hg95, ?_⟩
                  cases h1
                  exact ⟨_, [0, 1, 18], nextI hI3 hi3, by cbv; try simp, by first | exact Nat.lt_succ_self _ | omega⟩
            · as_aux_lemma =>
              rw [hc69]
              cbv
              cases h4
              try dsimp only at h3
              replace h3 := condF h3 rfl
              cases h3
              cases exitI hi2
              try dsimp only at h2
              obtain ⟨x163, h3, h2⟩ := bindS h2
              rcases condS h3 with ⟨hc96, h3⟩ | ⟨hc96, h3⟩
              · as_aux_lemma =>
                rw [hc96]
                cbv
                obtain ⟨hg97, h3⟩ := grdS h3
                refine ⟨idx_of hO hg97, ?_⟩
                obtain ⟨hg98, h3⟩ := grdS h3
                refine ⟨kin_of hO hg98, ?_⟩
                cases h3
                try dsimp only at h2
                rcases condS h2 with ⟨hc99, h2⟩ | ⟨hc99, h2⟩
                · rw [hc99]
                  cbv
                  refine hF3 _ _ ?_
                  cbv
                  cases h2
                  try dsimp only at h1
                  obtain ⟨hg100, h1⟩ := grdS h1
                  refine ⟨inr_of hO hg100, ?_⟩
                  cases h1
                  exact ⟨_, [0, 1, 10], nextI hI3 hi3, by cbv; try simp, by first | exact Nat.lt_succ_self _ | omega⟩
                · rw [hc99]
                  cbv
                  obtain ⟨hg101, h2⟩ := grdS h2
                  refine ⟨rng_of hO hg101, ?_⟩
                  obtain ⟨hg102, h2⟩ := grdS h2
                  refine ⟨room_of hO hg102, ?_⟩
                  obtain ⟨hg103, h2⟩ := grdS h2
                  refine ⟨room_of hO hg103, ?_⟩
                  obtain ⟨hg104, h2⟩ := grdS h2
                  refine ⟨room_of hO hg104, ?_⟩
                  obtain ⟨hg105, h2⟩ := grdS h2
                  refine ⟨room_of hO hg105, ?_⟩
                  refine ⟨rng_of hO hg101, ?_⟩
                  obtain ⟨hg106, h2⟩ := grdS h2
                  refine ⟨room_of hO hg106, ?_⟩
                  obtain ⟨hg107, h2⟩ := grdS h2
                  refine ⟨room_of hO hg107, ?_⟩
                  refine hF3 _ _ ?_
                  cbv
                  cases h2
                  try dsimp only at h1
                  obtain ⟨hg108, h1⟩ := grdS h1
                  refine ⟨inr_of hO hg108, ?_⟩
                  cases h1
                  exact ⟨_, [0, 1, 18], nextI hI3 hi3, by cbv; try simp, by first | exact Nat.lt_succ_self _ | omega⟩
              · rw [hc96]
                cbv
                cases h3
                try dsimp only at h2
                replace h2 := condF h2 rfl
                obtain ⟨hg109, h2⟩ := grdS h2
                refine ⟨rng_of hO hg109, ?_⟩
                obtain ⟨hg110, h2⟩ := grdS h2
                refine ⟨room_of hO hg110, ?_⟩
                obtain ⟨hg111, h2⟩ := grdS h2
                refine ⟨room_of hO hg111, ?_⟩
                obtain ⟨hg112, h2⟩ := grdS h2
                refine ⟨room_of hO hg112, ?_⟩
                obtain ⟨hg113, h2⟩ := grdS h2
                refine ⟨room_of hO hg113, ?_⟩
                refine ⟨rng_of hO hg109, ?_⟩
                obtain ⟨hg114, h2⟩ := grdS h2
                refine ⟨room_of hO hg114, ?_⟩
                obtain ⟨hg115, h2⟩ := grdS h2
                refine ⟨room_of hO hg115, ?_⟩
                refine hF3 _ _ ?_
                cbv
                cases h2
                try dsimp only at h1
                obtain ⟨hg116, h1⟩ := grdS h1
                refine ⟨inr_of hO hg116, ?_⟩
                cases h1
                exact ⟨_, [0, 1, 18], nextI hI3 hi3, by cbv; try simp, by first | exact Nat.lt_succ_self _ | omega⟩
        · as_aux_lemma =>
          rw [hc10]
          cbv
          cases h3
          try dsimp only at h2
          replace h2 := condF h2 rfl
          obtain ⟨hg117, h2⟩ := grdS h2
          refine ⟨rng_of hO hg117, ?_⟩
          obtain ⟨hg118, h2⟩ := grdS h2
          refine ⟨room_of hO hg118, ?_⟩
          obtain ⟨hg119, h2⟩ := grdS h2
          refine ⟨room_of hO hg119, ?_⟩
          obtain ⟨hg120, h2⟩ := grdS h2
          refine ⟨room_of hO hg120, ?_⟩
          obtain ⟨hg121, h2⟩ := grdS h2
          refine ⟨room_of hO hg121, ?_⟩
          refine ⟨rng_of hO hg117, ?_⟩
          obtain ⟨hg122, h2⟩ := grdS h2
          refine ⟨room_of hO hg122, ?_⟩
          obtain ⟨hg123, h2⟩ := grdS h2
          refine ⟨room_of hO hg123, ?_⟩
          refine hF1 _ _ ?_
          cbv
          cases h2
          try dsimp only at h1
          obtain ⟨l72, h2, h1⟩ := bindS h1
          refine ⟨idx_of hO hg2, ?_⟩
          refine ⟨kin_of hO hg3, ?_⟩
          refine call_inline tab_holds eqs_holds mixed [] hO hX (by kernel_rfl) Try.func88 (by kernel_rfl) (by kernel_rfl) rfl ?_
          intro X4 hX4 hF4
          cbv
          obtain ⟨i23, hi, h2⟩ := bindS h2
          obtain ⟨I2, hI2, hi⟩ := loopS hi
          refine loop1 tab_holds eqs_holds mixed [] hO hX4 I2 (fun y => [(4, .junk), (5, .c (.int .i64 y.2))]) (fun _ => []) (fun y => y.1) _ (by kernel_rfl) hi (by cbv; try simp) ?_
          refine allp ?_
          intro n2
          intro i22 hi
          cbv
          rw [hI2] at hi
          obtain ⟨n2, rfl, x2, h3, hi2⟩ := iterS hi
          unfold m_ref12_Ends_L2 at h3
          try dsimp only at h3
          obtain ⟨x161, h4, h3⟩ := bindS h3
          rcases condS h4 with ⟨hc124, h4⟩ | ⟨hc124, h4⟩
          · as_aux_lemma =>
            rw [hc124]
            cbv
            obtain ⟨hg125, h4⟩ := grdS h4
            refine ⟨inr_of hO hg125, ?_⟩
            obtain ⟨hg126, h4⟩ := grdS h4
            refine ⟨idx_of hO hg126, ?_⟩
            obtain ⟨hg127, h4⟩ := grdS h4
            refine ⟨kin_of hO hg127, ?_⟩
            cases h4
            try dsimp only at h3
            rcases condS h3 with ⟨hc128, h3⟩ | ⟨hc128, h3⟩
            · rw [hc128]
              cbv
              obtain ⟨hg129, h3⟩ := grdS h3
              refine ⟨inr_of hO hg129, ?_⟩
              cases h3
              exact ⟨_, [0, 1, 2, 3, 4, 5, 6, 7, 8, 9, 10, 11], nextI hI2 hi2, by cbv; try simp, by first | exact Nat.lt_succ_self _ | omega⟩
            · as_aux_lemma =>
              rw [hc128]
              cbv
              cases h3
              cases exitI hi2
              try dsimp only at h2
              obtain ⟨x163, h3, h2⟩ := bindS h2
              rcases condS h3 with ⟨hc130, h3⟩ | ⟨hc130, h3⟩
              · as_aux_lemma =>
                rw [hc130]
                cbv
                obtain ⟨hg131, h3⟩ := grdS h3
                refine ⟨idx_of hO hg131, ?_⟩
                obtain ⟨hg132, h3⟩ := grdS h3
                refine ⟨kin_of hO hg132, ?_⟩
                cases h3
                try dsimp only at h2
                rcases condS h2 with ⟨hc133, h2⟩ | ⟨hc133, h2⟩
                · rw [hc133]
                  cbv
                  refine hF4 _ _ ?_
                  cbv
                  cases h2
                  try dsimp only at h1
                  obtain ⟨hg134, h1⟩ := grdS h1
                  refine ⟨inr_of hO hg134, ?_⟩
                  cases h1
                  exact ⟨_, [0, 1, 10], nextI hI3 hi3, by cbv; try simp, by first | exact Nat.lt_succ_self _ | omega⟩
                · rw [hc133]
                  cbv
                  obtain ⟨hg135, h2⟩ := grdS h2
                  refine ⟨rng_of hO hg135, ?_⟩
                  obtain ⟨hg136, h2⟩ := grdS h2
                  refine ⟨room_of hO hg136, ?_⟩
                  obtain ⟨hg137, h2⟩ := grdS h2
                  refine ⟨room_of hO hg137, ?_⟩
                  obtain ⟨hg138, h2⟩ := grdS h2
                  refine ⟨room_of hO hg138, ?_⟩
                  obtain ⟨hg139, h2⟩ := grdS h2
                  refine ⟨room_of hO hg139, ?_⟩
                  refine ⟨rng_of hO hg135, ?_⟩
                  obtain ⟨hg140, h2⟩ := grdS h2
                  refine ⟨room_of hO hg140, ?_⟩
                  obtain ⟨hg141, h2⟩ := grdS h2
                  refine ⟨room_of hO hg141, ?_⟩
                  refine hF4 _ _ ?_
                  cbv
                  cases h2
                  try dsimp only at h1
                  obtain ⟨hg142, h1⟩ := grdS h1
                  refine ⟨inr_of hO hg142, ?_⟩
                  cases h1
                  exact ⟨_, [0, 1, 18], nextI hI3 hi3, by cbv; try simp, by first | exact Nat.lt_succ_self _ | omega⟩
              · rw [hc130]
                cbv
                cases h3
                try dsimp only at h2
                replace h2 := condF h2 rfl
                obtain ⟨hg143, h2⟩ := grdS h2
                refine ⟨rng_of hO hg143, ?_⟩
                obtain ⟨hg144, h2⟩ := grdS h2
                refine ⟨room_of hO hg144, ?_⟩
                obtain ⟨hg145, h2⟩ := grdS h2
                refine ⟨room_of hO hg145, ?_⟩
                obtain ⟨hg146, h2⟩ := grdS h2
                refine ⟨room_of hO hg146, ?_⟩
                obtain ⟨hg147, h2⟩ := grdS h2
                refine ⟨room_of hO hg147, ?_⟩
                refine ⟨rng_of hO hg143, ?_⟩
                obtain ⟨hg148, h2⟩ := grdS h2
                refine ⟨room_of hO hg148, ?_⟩
                obtain ⟨hg149, h2⟩ := grdS h2
                refine ⟨room_of hO hg149, ?_⟩
                refine hF4 _ _ ?_
                cbv
                cases h2
                try dsimp only at h1
                obtain ⟨hg150, h1⟩ := grdS h1
                refine ⟨inr_of hO hg150, ?_⟩
                cases h1
                exact ⟨_, [0, 1, 18], nextI hI3 hi3, by cbv; try simp, by first | exact Nat.lt_succ_self _ | omega⟩
          · as_aux_lemma =>
            rw [hc124]
            cbv
            cases h4
            try dsimp only at h3
            replace h3 := condF h3 rfl
            cases h3
            cases exitI hi2
            try dsimp only at h2
            obtain ⟨x163, h3, h2⟩ := bindS h2
            rcases condS h3 with ⟨hc151, h3⟩ | ⟨hc151, h3⟩
            · as_aux_lemma =>
              rw [hc151]
              cbv
              obtain ⟨hg152, h3⟩ := grdS h3
              refine ⟨idx_of hO hg152, ?_⟩
              obtain ⟨hg153, h3⟩ := grdS h3
              refine ⟨kin_of hO hg153, ?_⟩
              cases h3
              try dsimp only at h2
              rcases condS h2 with ⟨hc154, h2⟩ | ⟨hc154, h2⟩
              · rw [hc154]
                cbv
                refine hF4 _ _ ?_
                cbv
                cases h2
                try dsimp only at h1
                obtain ⟨hg155, h1⟩ := grdS h1
                refine ⟨inr_of hO hg155, ?_⟩
                cases h1
                exact ⟨_, [0, 1, 10], nextI hI3 hi3, by cbv; try simp, by first | exact Nat.lt_succ_self _ | omega⟩
              · rw [hc154]
                cbv
                obtain ⟨hg156, h2⟩ := grdS h2
                refine ⟨rng_of hO hg156, ?_⟩
                obtain ⟨hg157, h2⟩ := grdS h2
                refine ⟨room_of hO hg157, ?_⟩
                obtain ⟨hg158, h2⟩ := grdS h2
                refine ⟨room_of hO hg158, ?_⟩
                obtain ⟨hg159, h2⟩ := grdS h2
                refine ⟨room_of hO hg159, ?_⟩
                obtain ⟨hg160, h2⟩ := grdS h2
                refine ⟨room_of hO hg160, ?_⟩
                refine ⟨rng_of hO hg156, ?_⟩
                obtain ⟨hg161, h2⟩ := grdS h2
                refine ⟨room_of hO hg161, ?_⟩
                obtain ⟨hg162, h2⟩ := grdS h2
                refine ⟨room_of hO hg162, ?_⟩
                refine hF4 _ _ ?_
                cbv
                cases h2
                try dsimp only at h1
                obtain ⟨hg163, h1⟩ := grdS h1
                refine ⟨inr_of hO hg163, ?_⟩
                cases h1
                exact ⟨_, [0, 1, 18], nextI hI3 hi3, by cbv; try simp, by first | exact Nat.lt_succ_self _ | omega⟩
            · rw [hc151]
              cbv
              cases h3
              try dsimp only at h2
              replace h2 := condF h2 rfl
              obtain ⟨hg164, h2⟩ := grdS h2
              refine ⟨rng_of hO hg164, ?_⟩
              obtain ⟨hg165, h2⟩ := grdS h2
              refine ⟨room_of hO hg165, ?_⟩
              obtain ⟨hg166, h2⟩ := grdS h2
              refine ⟨room_of hO hg166, ?_⟩
              obtain ⟨hg167, h2⟩ := grdS h2
              refine ⟨room_of hO hg167, ?_⟩
              obtain ⟨hg168, h2⟩ := grdS h2
              refine ⟨room_of hO hg168, ?_⟩
              refine ⟨rng_of hO hg164, ?_⟩
              obtain ⟨hg169, h2⟩ := grdS h2
              refine ⟨room_of hO hg169, ?_⟩
              obtain ⟨hg170, h2⟩ := grdS h2
              refine ⟨room_of hO hg170, ?_⟩
              refine hF4 _ _ ?_
              cbv
              cases h2
              try dsimp only at h1
              obtain ⟨hg171, h1⟩ := grdS h1
              refine ⟨inr_of hO hg171, ?_⟩
              cases h1
              exact ⟨_, [0, 1, 18], nextI hI3 hi3, by cbv; try simp, by first | exact Nat.lt_succ_self _ | omega⟩
    · as_aux_lemma =>
      rw [hc4]
      cbv
      cases h4
      try dsimp only at h3
      replace h3 := condF h3 rfl
      cases h3
      cases exitI hi1
      try dsimp only at h2
      obtain ⟨x157, h3, h2⟩ := bindS h2
      rcases condS h3 with ⟨hc172, h3⟩ | ⟨hc172, h3⟩
      · as_aux_lemma =>
        rw [hc172]
        cbv
        obtain ⟨hg173, h3⟩ := grdS h3
        refine ⟨idx_of hO hg173, ?_⟩
        obtain ⟨hg174, h3⟩ := grdS h3
        refine ⟨kin_of hO hg174, ?_⟩
        cases h3
        try dsimp only at h2
        rcases condS h2 with ⟨hc175, h2⟩ | ⟨hc175, h2⟩
        · as_aux_lemma =>
          rw [hc175]
          cbv
          refine hF1 _ _ ?_
          cbv
          cases h2
          try dsimp only at h1
          obtain ⟨l72, h2, h1⟩ := bindS h1
          refine ⟨idx_of hO hg2, ?_⟩
          refine ⟨kin_of hO hg3, ?_⟩
          refine call_inline tab_holds eqs_holds mixed [] hO hX (by kernel_rfl) Try.func88 (by kernel_rfl) (by kernel_rfl) rfl ?_
          intro X5 hX5 hF5
          cbv
          obtain ⟨i23, hi, h2⟩ := bindS h2
          obtain ⟨I2, hI2, hi⟩ := loopS hi
          refine loop1 tab_holds eqs_holds mixed [] hO hX5 I2 (fun y => [(4, .junk), (5, .c (.int .i64 y.2))]) (fun _ => []) (fun y => y.1) _ (by kernel_rfl) hi (by cbv; try simp) ?_
          refine allp ?_
          intro n2
          intro i22 hi
          cbv
          rw [hI2] at hi
          obtain ⟨n2, rfl, x2, h3, hi2⟩ := iterS hi
          unfold m_ref12_Ends_L2 at h3
          try dsimp only at h3
          obtain ⟨x161, h4, h3⟩ := bindS h3
          rcases condS h4 with ⟨hc176, h4⟩ | ⟨hc176, h4⟩
          · as_aux_lemma =>
            rw [hc176]
            cbv
            obtain ⟨hg177, h4⟩ := grdS h4
            refine ⟨inr_of hO hg177, ?_⟩
            obtain ⟨hg178, h4⟩ := grdS h4
            refine ⟨idx_of hO hg178, ?_⟩
            obtain ⟨hg179, h4⟩ := grdS h4
            refine ⟨kin_of hO hg179, ?_⟩
            cases h4
            try dsimp only at h3
            rcases condS h3 with ⟨hc180, h3⟩ | ⟨hc180, h3⟩
            · rw [hc180]
              cbv
              obtain ⟨hg181, h3⟩ := grdS h3
              refine ⟨inr_of hO hg181, ?_⟩
              cases h3
              exact ⟨_, [0, 1, 2, 3, 4], nextI hI2 hi2, by cbv; try simp, by first | exact Nat.lt_succ_self _ | omega⟩
            · as_aux_lemma =>
              rw [hc180]
              cbv
              cases h3
              cases exitI hi2
              try dsimp only at h2
              obtain ⟨x163, h3, h2⟩ := bindS h2
              rcases condS h3 with ⟨hc182, h3⟩ | ⟨hc182, h3⟩
              · as_aux_lemma =>
                rw [hc182]
                cbv
                obtain ⟨hg183, h3⟩ := grdS h3
                refine ⟨idx_of hO hg183, ?_⟩
                obtain ⟨hg184, h3⟩ := grdS h3
                refine ⟨kin_of hO hg184, ?_⟩
                cases h3
                try dsimp only at h2
                rcases condS h2 with ⟨hc185, h2⟩ | ⟨hc185, h2⟩
                · rw [hc185]
                  cbv
                  refine hF5 _ _ ?_
                  cbv
                  cases h2
                  try dsimp only at h1
                  obtain ⟨hg186, h1⟩ := grdS h1
                  refine ⟨inr_of hO hg186, ?_⟩
                  cases h1
                  exact ⟨_, [0, 1, 2], nextI hI3 hi3, by cbv; try simp, by first | exact Nat.lt_succ_self _ | omega⟩
                · rw [hc185]
                  cbv
                  obtain ⟨hg187, h2⟩ := grdS h2
                  refine ⟨rng_of hO hg187, ?_⟩
                  obtain ⟨hg188, h2⟩ := grdS h2
                  refine ⟨room_of hO hg188, ?_⟩
                  obtain ⟨hg189, h2⟩ := grdS h2
                  refine ⟨room_of hO hg189, ?_⟩
                  obtain ⟨hg190, h2⟩ := grdS h2
                  refine ⟨room_of hO hg190, ?_⟩
                  obtain ⟨hg191, h2⟩ := grdS h2
                  refine ⟨room_of hO hg191, ?_⟩
                  refine ⟨rng_of hO hg187, ?_⟩
                  obtain ⟨hg192, h2⟩ := grdS h2
                  refine ⟨room_of hO hg192, ?_⟩
                  obtain ⟨hg193, h2⟩ := grdS h2
                  refine ⟨room_of hO hg193, ?_⟩
                  refine hF5 _ _ ?_
                  cbv
                  cases h2
                  try dsimp only at h1
                  obtain ⟨hg194, h1⟩ := grdS h1
                  refine ⟨inr_of hO hg194, ?_⟩
                  cases h1
                  exact ⟨_, [0, 1, 11], nextI hI3 hi3, by cbv; try simp, by first | exact Nat.lt_succ_self _ | omega⟩
              · rw [hc182]
                cbv
                cases h3
                try dsimp only at h2
                replace h2 := condF h2 rfl
                obtain ⟨hg195, h2⟩ := grdS h2
                refine ⟨rng_of hO hg195, ?_⟩
                obtain ⟨hg196, h2⟩ := grdS h2
                refine ⟨room_of hO hg196, ?_⟩
                obtain ⟨hg197, h2⟩ := grdS h2
                refine ⟨room_of hO hg197, ?_⟩
                obtain ⟨hg198, h2⟩ := grdS h2
                refine ⟨room_of hO hg198, ?_⟩
                obtain ⟨hg199, h2⟩ := grdS h2
                refine ⟨room_of hO hg199, ?_⟩
                refine ⟨rng_of hO hg195, ?_⟩
                obtain ⟨hg200, h2⟩ := grdS h2
                refine ⟨room_of hO hg200, ?_⟩
                obtain ⟨hg201, h2⟩ := grdS h2
                refine ⟨room_of hO hg201, ?_⟩
                refine hF5 _ _ ?_
                cbv
                cases h2
                try dsimp only at h1
                obtain ⟨hg202, h1⟩ := grdS h1
                refine ⟨inr_of hO hg202, ?_⟩
                cases h1
                exact ⟨_, [0, 1, 11], nextI hI3 hi3, by cbv; try simp, by first | exact Nat.lt_succ_self _ | omega⟩
          · as_aux_lemma =>
            rw [hc176]
            cbv
            cases h4
            try dsimp only at h3
            replace h3 := condF h3 rfl
            cases h3
            cases exitI hi2
            try dsimp only at h2
            obtain ⟨x163, h3, h2⟩ := bindS h2
            rcases condS h3 with ⟨hc203, h3⟩ | ⟨hc203, h3⟩
            · as_aux_lemma =>
              rw [hc203]
              cbv
              obtain ⟨hg204, h3⟩ := grdS h3
              refine ⟨idx_of hO hg204, ?_⟩
              obtain ⟨hg205, h3⟩ := grdS h3
              refine ⟨kin_of hO hg205, ?_⟩
              cases h3
              try dsimp only at h2
              rcases condS h2 with ⟨hc206, h2⟩ | ⟨hc206, h2⟩
              · rw [hc206]
                cbv
                refine hF5 _ _ ?_
                cbv
                cases h2
                try dsimp only at h1
                obtain ⟨hg207, h1⟩ := grdS h1
                refine ⟨inr_of hO hg207, ?_⟩
                cases h1
                exact ⟨_, [0, 1, 2], nextI hI3 hi3, by cbv; try simp, by first | exact Nat.lt_succ_self _ | omega⟩
              · rw [hc206]
                cbv
                obtain ⟨hg208, h2⟩ := grdS h2
                refine ⟨rng_of hO hg208, ?_⟩
                obtain ⟨hg209, h2⟩ := grdS h2
                refine ⟨room_of hO hg209, ?_⟩
                obtain ⟨hg210, h2⟩ := grdS h2
                refine ⟨room_of hO hg210, ?_⟩
                obtain ⟨hg211, h2⟩ := grdS h2
                refine ⟨room_of hO hg211, ?_⟩
                obtain ⟨hg212, h2⟩ := grdS h2
                refine ⟨room_of hO hg212, ?_⟩
                refine ⟨rng_of hO hg208, ?_⟩
                obtain ⟨hg213, h2⟩ := grdS h2
                refine ⟨room_of hO hg213, ?_⟩
                obtain ⟨hg214, h2⟩ := grdS h2
                refine ⟨room_of hO hg214, ?_⟩
                refine hF5 _ _ ?_
                cbv
                cases h2
                try dsimp only at h1
                obtain ⟨hg215, h1⟩ := grdS h1
                refine ⟨inr_of hO hg215, ?_⟩
                cases h1
                exact ⟨_, [0, 1, 11], nextI hI3 hi3, by cbv; try simp, by first | exact Nat.lt_succ_self _ | omega⟩
            · rw [hc203]
              cbv
              cases h3
              try dsimp only at h2
              replace h2 := condF h2 rfl
              obtain ⟨hg216, h2⟩ := grdS h2
              refine ⟨rng_of hO hg216, ?_⟩
              obtain ⟨hg217, h2⟩ := grdS h2
              refine ⟨room_of hO hg217, ?_⟩
              obtain ⟨hg218, h2⟩ := grdS h2
              refine ⟨room_of hO hg218, ?_⟩
              obtain ⟨hg219, h2⟩ := grdS h2
              refine ⟨room_of hO hg219, ?_⟩
              obtain ⟨hg220, h2⟩ := grdS h2
              refine ⟨room_of hO hg220, ?_⟩
              refine ⟨rng_of hO hg216, ?_⟩
              obtain ⟨hg221, h2⟩ := grdS h2
              refine ⟨room_of hO hg221, ?_⟩
              obtain ⟨hg222, h2⟩ := grdS h2
              refine ⟨room_of hO hg222, ?_⟩
              refine hF5 _ _ ?_
              cbv
              cases h2
              try dsimp only at h1
              obtain ⟨hg223, h1⟩ := grdS h1
              refine ⟨inr_of hO hg223, ?_⟩
              cases h1
              exact ⟨_, [0, 1, 11], nextI hI3 hi3, by cbv; try simp, by first | exact Nat.lt_succ_self _ | omega⟩
        · as_aux_lemma =>
          rw [hc175]
          cbv
          obtain ⟨hg224, h2⟩ := grdS h2
          refine ⟨rng_of hO hg224, ?_⟩
          obtain ⟨hg225, h2⟩ := grdS h2
          refine ⟨room_of hO hg225, ?_⟩
          obtain ⟨hg226, h2⟩ := grdS h2
          refine ⟨room_of hO hg226, ?_⟩
          obtain ⟨hg227, h2⟩ := grdS h2
          refine ⟨room_of hO hg227, ?_⟩
          obtain ⟨hg228, h2⟩ := grdS h2
          refine ⟨room_of hO hg228, ?_⟩
          refine ⟨rng_of hO hg224, ?_⟩
          obtain ⟨hg229, h2⟩ := grdS h2
          refine ⟨room_of hO hg229, ?_⟩
          obtain ⟨hg230, h2⟩ := grdS h2
          refine ⟨room_of hO hg230, ?_⟩
          refine hF1 _ _ ?_
          cbv
          cases h2
          try dsimp only at h1
          obtain ⟨l72, h2, h1⟩ := bindS h1
          refine ⟨idx_of hO hg2, ?_⟩
          refine ⟨kin_of hO hg3, ?_⟩
          refine call_inline tab_holds eqs_holds mixed [] hO hX (by kernel_rfl) Try.func88 (by kernel_rfl) (by kernel_rfl) rfl ?_
          intro X6 hX6 hF6
          cbv
          obtain ⟨i23, hi, h2⟩ := bindS h2
          obtain ⟨I2, hI2, hi⟩ := loopS hi
          refine loop1 tab_holds eqs_holds mixed [] hO hX6 I2 (fun y => [(4, .junk), (5, .c (.int .i64 y.2))]) (fun _ => []) (fun y => y.1) _ (by kernel_rfl) hi (by cbv; try simp) ?_
          refine allp ?_
          intro n2
          intro i22 hi
          cbv
          rw [hI2] at hi
          obtain ⟨n2, rfl, x2, h3, hi2⟩ := iterS hi
          unfold m_ref12_Ends_L2 at h3
          try dsimp only at h3
          obtain ⟨x161, h4, h3⟩ := bindS h3
          rcases condS h4 with ⟨hc231, h4⟩ | ⟨hc231, h4⟩
          · as_aux_lemma =>
            rw [hc231]
            cbv
            obtain ⟨hg232, h4⟩ := grdS h4
            refine ⟨inr_of hO hg232, ?_⟩
            obtain ⟨hg233, h4⟩ := grdS h4
            refine ⟨idx_of hO hg233, ?_⟩
            obtain ⟨hg234, h4⟩ := grdS h4
            refine ⟨kin_of hO hg234, ?_⟩
            cases h4
            try dsimp only at h3
            rcases condS h3 with ⟨hc235, h3⟩ | ⟨hc235, h3⟩
            · rw [hc235]
              cbv
              obtain ⟨hg236, h3⟩ := grdS h3
              refine ⟨inr_of hO hg236, ?_⟩
              cases h3
              exact ⟨_, [0, 1, 2, 3, 4, 5, 6, 7, 8, 9, 10, 11], nextI hI2 hi2, by cbv; try simp, by first | exact Nat.lt_succ_self _ | omega⟩
            · as_aux_lemma =>
              rw [hc235]
              cbv
              cases h3
              cases exitI hi2
              try dsimp only at h2
              obtain ⟨x163, h3, h2⟩ := bindS h2
              rcases condS h3 with ⟨hc237, h3⟩ | ⟨hc237, h3⟩
              · as_aux_lemma =>
                rw [hc237]
                cbv
                obtain ⟨hg238, h3⟩ := grdS h3
                refine ⟨idx_of hO hg238, ?_⟩
                obtain ⟨hg239, h3⟩ := grdS h3
                refine ⟨kin_of hO hg239, ?_⟩
                cases h3
                try dsimp only at h2
                rcases condS h2 with ⟨hc240, h2⟩ | ⟨hc240, h2⟩
                · rw [hc240]
                  cbv
                  refine hF6 _ _ ?_
                  cbv
                  cases h2
                  try dsimp only at h1
                  obtain ⟨hg241, h1⟩ := grdS h1
                  refine ⟨inr_of hO hg241, ?_⟩
                  cases h1
                  exact ⟨_, [0, 1, 10], nextI hI3 hi3, by cbv; try simp, by first | exact Nat.lt_succ_self _ | omega⟩
                · rw [hc240]
                  cbv
                  obtain ⟨hg242, h2⟩ := grdS h2
                  refine ⟨rng_of hO hg242, ?_⟩
                  obtain ⟨hg243, h2⟩ := grdS h2
                  refine ⟨room_of hO hg243, ?_⟩
                  obtain ⟨hg244, h2⟩ := grdS h2
                  refine ⟨room_of hO hg244, ?_⟩
                  obtain ⟨hg245, h2⟩ := grdS h2
                  refine ⟨room_of hO hg245, ?_⟩
                  obtain ⟨hg246, h2⟩ := grdS h2
                  refine ⟨room_of hO hg246, ?_⟩
                  refine ⟨rng_of hO hg242, ?_⟩
                  obtain ⟨hg247, h2⟩ := grdS h2
                  refine ⟨room_of hO hg247, ?_⟩
                  obtain ⟨hg248, h2⟩ := grdS h2
                  refine ⟨room_of hO hg248, ?_⟩
                  refine hF6 _ _ ?_
                  cbv
                  cases h2
                  try dsimp only at h1
                  obtain ⟨hg249, h1⟩ := grdS h1
                  refine ⟨inr_of hO hg249, ?_⟩
                  cases h1
                  exact ⟨_, [0, 1, 18], nextI hI3 hi3, by cbv; try simp, by first | exact Nat.lt_succ_self _ | omega⟩
              · rw [hc237]
                cbv
                cases h3
                try dsimp only at h2
                replace h2 := condF h2 rfl
                obtain ⟨hg250, h2⟩ := grdS h2
                refine ⟨rng_of hO hg250, ?_⟩
                obtain ⟨hg251, h2⟩ := grdS h2
                refine ⟨room_of hO hg251, ?_⟩
                obtain ⟨hg252, h2⟩ := grdS h2
                refine ⟨room_of hO hg252, ?_⟩
                obtain ⟨hg253, h2⟩ := grdS h2
                refine ⟨room_of hO hg253, ?_⟩
                obtain ⟨hg254, h2⟩ := grdS h2
                refine ⟨room_of hO hg254, ?_⟩
                refine ⟨rng_of hO hg250, ?_⟩
                obtain ⟨hg255, h2⟩ := grdS h2
                refine ⟨room_of hO hg255, ?_⟩
                obtain ⟨hg256, h2⟩ := grdS h2
                refine ⟨room_of hO hg256, ?_⟩
                refine hF6 _ _ ?_
                cbv
                cases h2
                try dsimp only at h1
                obtain ⟨hg257, h1⟩ := grdS h1
                refine ⟨inr_of hO hg257, ?_⟩
                cases h1
                exact ⟨_, [0, 1, 18], nextI hI3 hi3, by cbv; try simp, by first | exact Nat.lt_succ_self _ | omega⟩
          · as_aux_lemma =>
            rw [hc231]
            cbv
            cases h4
            try dsimp only at h3
            replace h3 := condF h3 rfl
            cases h3
            cases exitI hi2
            try dsimp only at h2
            obtain ⟨x163, h3, h2⟩ := bindS h2
            rcases condS h3 with ⟨hc258, h3⟩ | ⟨hc258, h3⟩
            · as_aux_lemma =>
              rw [hc258]
              cbv
              obtain ⟨hg259, h3⟩ := grdS h3
              refine ⟨idx_of hO hg259, ?_⟩
              obtain ⟨hg260, h3⟩ := grdS h3
              refine ⟨kin_of hO hg260, ?_⟩
              cases h3
              try dsimp only at h2
              rcases condS h2 with ⟨hc261, h2⟩ | ⟨hc261, h2⟩
              · rw [hc261]
                cbv
                refine hF6 _ _ ?_
                cbv
                cases h2
                try dsimp only at h1
                obtain ⟨hg262, h1⟩ := grdS h1
                refine ⟨inr_of hO hg262, ?_⟩
                cases h1
                exact ⟨_, [0, 1, 10], nextI hI3 hi3, by cbv; try simp, by first | exact Nat.lt_succ_self _ | omega⟩
              · rw [hc261]
                cbv
                obtain ⟨hg263, h2⟩ := grdS h2
                refine ⟨rng_of hO hg263, ?_⟩
                obtain ⟨hg264, h2⟩ := grdS h2
                refine ⟨room_of hO hg264, ?_⟩
                obtain ⟨hg265, h2⟩ := grdS h2
                refine ⟨room_of hO hg265, ?_⟩
                obtain ⟨hg266, h2⟩ := grdS h2
                refine ⟨room_of hO hg266, ?_⟩
                obtain ⟨hg267, h2⟩ := grdS h2
                refine ⟨room_of hO hg267, ?_⟩
                refine ⟨rng_of hO hg263, ?_⟩
                obtain ⟨hg268, h2⟩ := grdS h2
                refine ⟨room_of hO hg268, ?_⟩
                obtain ⟨hg269, h2⟩ := grdS h2
                refine ⟨room_of hO hg269, ?_⟩
                refine hF6 _ _ ?_
                cbv
                cases h2
                try dsimp only at h1
                obtain ⟨hg270, h1⟩ := grdS h1
                refine ⟨inr_of hO hg270, ?_⟩
                cases h1
                exact ⟨_, [0, 1, 18], nextI hI3 hi3, by cbv; try simp, by first | exact Nat.lt_succ_self _ | omega⟩
            · rw [hc258]
              cbv
              cases h3
              try dsimp only at h2
              replace h2 := condF h2 rfl
              obtain ⟨hg271, h2⟩ := grdS h2
              refine ⟨rng_of hO hg271, ?_⟩
              obtain ⟨hg272, h2⟩ := grdS h2
              refine ⟨room_of hO hg272, ?_⟩
              obtain ⟨hg273, h2⟩ := grdS h2
              refine ⟨room_of hO hg273, ?_⟩
              obtain ⟨hg274, h2⟩ := grdS h2
              refine ⟨room_of hO hg274, ?_⟩
              obtain ⟨hg275, h2⟩ := grdS h2
              refine ⟨room_of hO hg275, ?_⟩
              refine ⟨rng_of hO hg271, ?_⟩
              obtain ⟨hg276, h2⟩ := grdS h2
              refine ⟨room_of hO hg276, ?_⟩
              obtain ⟨hg277, h2⟩ := grdS h2
              refine ⟨room_of hO hg277, ?_⟩
              refine hF6 _ _ ?_
              cbv
              cases h2
              try dsimp only at h1
              obtain ⟨hg278, h1⟩ := grdS h1
              refine ⟨inr_of hO hg278, ?_⟩
              cases h1
              exact ⟨_, [0, 1, 18], nextI hI3 hi3, by cbv; try simp, by first | exact Nat.lt_succ_self _ | omega⟩
      · as_aux_lemma =>
        rw [hc172]
        cbv
        cases h3
        try dsimp only at h2
        replace h2 := condF h2 rfl
        obtain ⟨hg279, h2⟩ := grdS h2
        refine ⟨rng_of hO hg279, ?_⟩
        obtain ⟨hg280, h2⟩ := grdS h2
        refine ⟨room_of hO hg280, ?_⟩
        obtain ⟨hg281, h2⟩ := grdS h2
        refine ⟨room_of hO hg281, ?_⟩
        obtain ⟨hg282, h2⟩ := grdS h2
        refine ⟨room_of hO hg282, ?_⟩
        obtain ⟨hg283, h2⟩ := grdS h2
        refine ⟨room_of hO hg283, ?_⟩
        refine ⟨rng_of hO hg279, ?_⟩
        obtain ⟨hg284, h2⟩ := grdS h2
        refine ⟨room_of hO hg284, ?_⟩
        obtain ⟨hg285, h2⟩ := grdS h2
        refine ⟨room_of hO hg285, ?_⟩
        refine hF1 _ _ ?_
        cbv
        cases h2
        try dsimp only at h1
        obtain ⟨l72, h2, h1⟩ := bindS h1
        refine ⟨idx_of hO hg2, ?_⟩
        refine ⟨kin_of hO hg3, ?_⟩
        refine call_inline tab_holds eqs_holds mixed [] hO hX (by kernel_rfl) Try.func88 (by kernel_rfl) (by kernel_rfl) rfl ?_
        intro X7 hX7 hF7
        cbv
        obtain ⟨i23, hi, h2⟩ := bindS h2
        obtain ⟨I2, hI2, hi⟩ := loopS hi
        refine loop1 tab_holds eqs_holds mixed [] hO hX7 I2 (fun y => [(4, .junk), (5, .c (.int .i64 y.2))]) (fun _ => []) (fun y => y.1) _ (by kernel_rfl) hi (by cbv; try simp) ?_
        refine allp ?_
        intro n2
        intro i22 hi
        cbv
        rw [hI2] at hi
        obtain ⟨n2, rfl, x2, h3, hi2⟩ := iterS hi
        unfold m_ref12_Ends_L2 at h3
        try dsimp only at h3
        obtain ⟨x161, h4, h3⟩ := bindS h3
        rcases condS h4 with ⟨hc286, h4⟩ | ⟨hc286, h4⟩
        · as_aux_lemma =>
          rw [hc286]
          cbv
          obtain ⟨hg287, h4⟩ := grdS h4
          refine ⟨inr_of hO hg287, ?_⟩
          obtain ⟨hg288, h4⟩ := grdS h4
          refine ⟨idx_of hO hg288, ?_⟩
          obtain ⟨hg289, h4⟩ := grdS h4
          refine ⟨kin_of hO hg289, ?_⟩
          cases h4
          try dsimp only at h3
          rcases condS h3 with ⟨hc290, h3⟩ | ⟨hc290, h3⟩
          · rw [hc290]
            cbv
            obtain ⟨hg291, h3⟩ := grdS h3
            refine ⟨inr_of hO hg291, ?_⟩
            cases h3
            exact ⟨_, [0, 1, 2, 3, 4, 5, 6, 7, 8, 9, 10, 11], nextI hI2 hi2, by cbv; try simp, by first | exact Nat.lt_succ_self _ | omega⟩
          · as_aux_lemma =>
            rw [hc290]
            cbv
            cases h3
            cases exitI hi2
            try dsimp only at h2
            obtain ⟨x163, h3, h2⟩ := bindS h2
            rcases condS h3 with ⟨hc292, h3⟩ | ⟨hc292, h3⟩
            · as_aux_lemma =>
              rw [hc292]
              cbv
              obtain ⟨hg293, h3⟩ := grdS h3
              refine ⟨idx_of hO hg293, ?_⟩
              obtain ⟨hg294, h3⟩ := grdS h3
              refine ⟨kin_of hO hg294, ?_⟩
              cases h3
              try dsimp only at h2
              rcases condS h2 with ⟨hc295, h2⟩ | ⟨hc295, h2⟩
              · rw [hc295]
                cbv
                refine hF7 _ _ ?_
                cbv
                cases h2
                try dsimp only at h1
                obtain ⟨hg296, h1⟩ := grdS h1
                refine ⟨inr_of hO hg296, ?_⟩
                cases h1
                exact ⟨_, [0, 1, 10], nextI hI3 hi3, by cbv; try simp, by first | exact Nat.lt_succ_self _ | omega⟩
              · rw [hc295]
                cbv
                obtain ⟨hg297, h2⟩ := grdS h2
                refine ⟨rng_of hO hg297, ?_⟩
                obtain ⟨hg298, h2⟩ := grdS h2
                refine ⟨room_of hO hg298, ?_⟩
                obtain ⟨hg299, h2⟩ := grdS h2
                refine ⟨room_of hO hg299, ?_⟩
                obtain ⟨hg300, h2⟩ := grdS h2
                refine ⟨room_of hO hg300, ?_⟩
                obtain ⟨hg301, h2⟩ := grdS h2
                refine ⟨room_of hO hg301, ?_⟩
                refine ⟨rng_of hO hg297, ?_⟩
                obtain ⟨hg302, h2⟩ := grdS h2
                refine ⟨room_of hO hg302, ?_⟩
                obtain ⟨hg303, h2⟩ := grdS h2
                refine ⟨room_of hO hg303, ?_⟩
                refine hF7 _ _ ?_
                cbv
                cases h2
                try dsimp only at h1
                obtain ⟨hg304, h1⟩ := grdS h1
                refine ⟨inr_of hO hg304, ?_⟩
                cases h1
                exact ⟨_, [0, 1, 18], nextI hI3 hi3, by cbv; try simp, by first | exact Nat.lt_succ_self _ | omega⟩
            · rw [hc292]
              cbv
              cases h3
              try dsimp only at h2
              replace h2 := condF h2 rfl
              obtain ⟨hg305, h2⟩ := grdS h2
              refine ⟨rng_of hO hg305, ?_⟩
              obtain ⟨hg306, h2⟩ := grdS h2
              refine ⟨room_of hO hg306, ?_⟩
              obtain ⟨hg307, h2⟩ := grdS h2
              refine ⟨room_of hO hg307, ?_⟩
              obtain ⟨hg308, h2⟩ := grdS h2
              refine ⟨room_of hO hg308, ?_⟩
              obtain ⟨hg309, h2⟩ := grdS h2
              refine ⟨room_of hO hg309, ?_⟩
              refine ⟨rng_of hO hg305, ?_⟩
              obtain ⟨hg310, h2⟩ := grdS h2
              refine ⟨room_of hO hg310, ?_⟩
              obtain ⟨hg311, h2⟩ := grdS h2
              refine ⟨room_of hO hg311, ?_⟩
              refine hF7 _ _ ?_
              cbv
              cases h2
              try dsimp only at h1
              obtain ⟨hg312, h1⟩ := grdS h1
              refine ⟨inr_of hO hg312, ?_⟩
              cases h1
              exact ⟨_, [0, 1, 18], nextI hI3 hi3, by cbv; try simp, by first | exact Nat.lt_succ_self _ | omega⟩
        · as_aux_lemma =>
          rw [hc286]
          cbv
          cases h4
          try dsimp only at h3
          replace h3 := condF h3 rfl
          cases h3
          cases exitI hi2
          try dsimp only at h2
          obtain ⟨x163, h3, h2⟩ := bindS h2
          rcases condS h3 with ⟨hc313, h3⟩ | ⟨hc313, h3⟩
          · as_aux_lemma =>
            rw [hc313]
            cbv
            obtain ⟨hg314, h3⟩ := grdS h3
            refine ⟨idx_of hO hg314, ?_⟩
            obtain ⟨hg315, h3⟩ := grdS h3
            refine ⟨kin_of hO hg315, ?_⟩
            cases h3
            try dsimp only at h2
            rcases condS h2 with ⟨hc316, h2⟩ | ⟨hc316, h2⟩
            · rw [hc316]
              cbv
              refine hF7 _ _ ?_
              cbv
              cases h2
              try dsimp only at h1
              obtain ⟨hg317, h1⟩ := grdS h1
              refine ⟨inr_of hO hg317, ?_⟩
              cases h1
              exact ⟨_, [0, 1, 10], nextI hI3 hi3, by cbv; try simp, by first | exact Nat.lt_succ_self _ | omega⟩
            · rw [hc316]
              cbv
              obtain ⟨hg318, h2⟩ := grdS h2
              refine ⟨rng_of hO hg318, ?_⟩
              obtain ⟨hg319, h2⟩ := grdS h2
              refine ⟨room_of hO hg319, ?_⟩
              obtain ⟨hg320, h2⟩ := grdS h2
              refine ⟨room_of hO hg320, ?_⟩
              obtain ⟨hg321, h2⟩ := grdS h2
              refine ⟨room_of hO hg321, ?_⟩
              obtain ⟨hg322, h2⟩ := grdS h2
              refine ⟨room_of hO hg322, ?_⟩
              refine ⟨rng_of hO hg318, ?_⟩
              obtain ⟨hg323, h2⟩ := grdS h2
              refine ⟨room_of hO hg323, ?_⟩
              obtain ⟨hg324, h2⟩ := grdS h2
              refine ⟨room_of hO hg324, ?_⟩
              refine hF7 _ _ ?_
              cbv
              cases h2
              try dsimp only at h1
              obtain ⟨hg325, h1⟩ := grdS h1
              refine ⟨inr_of hO hg325, ?_⟩
              cases h1
              exact ⟨_, [0, 1, 18], nextI hI3 hi3, by cbv; try simp, by first | exact Nat.lt_succ_self _ | omega⟩
          · rw [hc313]
            cbv
            cases h3
            try dsimp only at h2
            replace h2 := condF h2 rfl
            obtain ⟨hg326, h2⟩ := grdS h2
            refine ⟨rng_of hO hg326, ?_⟩
            obtain ⟨hg327, h2⟩ := grdS h2
            refine ⟨room_of hO hg327, ?_⟩
            obtain ⟨hg328, h2⟩ := grdS h2
            refine ⟨room_of hO hg328, ?_⟩
            obtain ⟨hg329, h2⟩ := grdS h2
            refine ⟨room_of hO hg329, ?_⟩
            obtain ⟨hg330, h2⟩ := grdS h2
            refine ⟨room_of hO hg330, ?_⟩
            refine ⟨rng_of hO hg326, ?_⟩
            obtain ⟨hg331, h2⟩ := grdS h2
            refine ⟨room_of hO hg331, ?_⟩
            obtain ⟨hg332, h2⟩ := grdS h2
            refine ⟨room_of hO hg332, ?_⟩
            refine hF7 _ _ ?_
            cbv
            cases h2
            try dsimp only at h1
            obtain ⟨hg333, h1⟩ := grdS h1
            refine ⟨inr_of hO hg333, ?_⟩
            cases h1
            exact ⟨_, [0, 1, 18], nextI hI3 hi3, by cbv; try simp, by first | exact Nat.lt_succ_self _ | omega⟩
  · rw [hc1]
    cbv
    cases h1
    cases exitI hi3
    try dsimp only at h0
    cases h0
    exact fin_ok hX rfl ⟨[2], _, _, ⟨rfl, rfl⟩, rfl, rfl, rfl, rfl, by cbv; try simp⟩
end Go.Proofs.Ytebkfbkgmbgobaa
