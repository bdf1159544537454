/-
  The code does what its models say (printed by lift.py).
-/
import Derived.Test.YtfhfifcfkimgpaaHM
import Derived.Test.YtfhfifcfkimgpaaManW2
import Derived.Test.YtfhfifcfkimgpaaJW0
namespace Go.Proofs.Ytfhfifcfkimgpaa
open Go.RowKit
set_option maxRecDepth 100000

set_option maxHeartbeats 40000000 in
theorem fn_law13_near {O0 : Ops} (hO0 : O0 = std) {x_1 : Int} {l_1 : Int} {l_2 : Int} {l_3 : List (Int × Int)} {l_4 : List (Int × Int)} {r1 : List Int} (h : m_law13_near O0 x_1 l_1 l_2 l_3 l_4 = some r1) :
    Fn Try.prog 38 [.c (.int .i64 x_1), .c (.asl 0 2)] [.ro 24 [.int .i64 l_1, .sl 1, .int .i64 l_2, .sl 2], .arr false .i2 l_3, .arr false .i2 l_4] (fun v c => v = .c (.sl 3) ∧ c = [.own 3 .i1 r1]) := by
  refine fn_run tab_holds eqs_holds mixed [] Try.func38 (by kernel_rfl) (by kernel_rfl) (Nat.le_of_ble_eq_true rfl) ?_
  intro O X hO hX
  rw [hO0, ← hO] at h
  unfold m_law13_near at h
  have h0 := h; clear h
  cbv
  refine loop_unroll tab_holds eqs_holds mixed [] hO hX 3 (by kernel_rfl) ?_
  cbv
  rw [show (O .lt 0 (Int.ofNat 2)) = true from by subst hO; rfl]
  cbv
  obtain ⟨n144, hv, h0⟩ := bindS h0
  refine call_is hO hX (fn_integer_Mod hO hv) (by kernel_rfl) [] rfl trivial rfl ?_
  cbv
  obtain ⟨hg1, h0⟩ := grdS h0
  refine ⟨inr_of hO hg1, ?_⟩
  obtain ⟨l218, hi, h0⟩ := bindS h0
  obtain ⟨I1, hI1, hi⟩ := loopS hi
  refine loop1 tab_holds eqs_holds mixed [] hO hX I1 (fun y => [(4, .junk), (7, .junk), (12, .junk), (21, .junk), (25, .junk), (5, .c (.sl 4)), (28, .c (.int .i64 y.2.1))]) (fun y => [(4, .own 3 .i1 y.2.2)]) (fun y => y.1) _ (by kernel_rfl) hi (by cbv; try simp) ?_
  refine allp ?_
  intro n1
  refine allp ?_
  intro x361
  intro l217 hi
  cbv
  rw [hI1] at hi
  obtain ⟨n1, rfl, x1, h1, hi1⟩ := iterS hi
  unfold m_law13_near_L1 at h1
  try dsimp only at h1
  rcases condS h1 with ⟨hc2, h1⟩ | ⟨hc2, h1⟩
  · rw [hc2]
    cbv
    obtain ⟨hg3, h1⟩ := grdS h1
    refine ⟨idx_of hO hg3, ?_⟩
    obtain ⟨hg4, h1⟩ := grdS h1
    refine ⟨kin_of hO hg4, ?_⟩
    obtain ⟨hg5, h1⟩ := grdS h1
    refine ⟨inr_of hO hg5, ?_⟩
    obtain ⟨hg6, h1⟩ := grdS h1
    refine ⟨inr_of hO hg6, ?_⟩
    refine ⟨inr_of hO hg5, ?_⟩
    obtain ⟨hg7, h1⟩ := grdS h1
    refine ⟨inr_of hO hg7, ?_⟩
    obtain ⟨hg8, h1⟩ := grdS h1
    refine ⟨inr_of hO hg8, ?_⟩
    refine ⟨inr_of hO hg7, ?_⟩
    obtain ⟨hg9, h1⟩ := grdS h1
    refine ⟨room_of hO hg9, ?_⟩
    obtain ⟨hg10, h1⟩ := grdS h1
    refine ⟨room_of hO hg10, ?_⟩
    obtain ⟨hg11, h1⟩ := grdS h1
    refine ⟨inr_of hO hg11, ?_⟩
    cases h1
    exact ⟨_, [0, 1, 2, 3, 8, 5], nextI hI1 hi1, by cbv; try simp, by first | exact Nat.lt_succ_self _ | omega⟩
  · as_aux_lemma =>
    rw [hc2]
    cbv
    cases h1
    cases exitI hi1
    try dsimp only at h0
    obtain ⟨hg12, h0⟩ := grdS h0
    refine ⟨inr_of hO hg12, ?_⟩
    try (rw [show (O .add 0 1) = 1 from by subst hO; rfl]; try cbv)
    try (rw [show (O .add 0 1) = 1 from by subst hO; rfl]; try cbv)
    rw [show (O .lt 1 (Int.ofNat 2)) = true from by subst hO; rfl]
    cbv
    obtain ⟨n145, hv, h0⟩ := bindS h0
    refine call_is hO hX (fn_integer_Mod hO hv) (by kernel_rfl) [] rfl trivial rfl ?_
    cbv
    obtain ⟨hg13, h0⟩ := grdS h0
    refine ⟨inr_of hO hg13, ?_⟩
    obtain ⟨l220, hi, h0⟩ := bindS h0
    obtain ⟨I2, hI2, hi⟩ := loopS hi
    refine loop1 tab_holds eqs_holds mixed [] hO hX I2 (fun y => [(7, .junk), (21, .junk), (25, .junk), (5, .c (.sl 4)), (28, .c (.int .i64 y.2.1))]) (fun y => [(4, .own 3 .i1 y.2.2)]) (fun y => y.1) _ (by kernel_rfl) hi (by cbv; try simp) ?_
    refine allp ?_
    intro n2
    refine allp ?_
    intro x363
    intro l219 hi
    cbv
    rw [hI2] at hi
    obtain ⟨n2, rfl, x2, h1, hi2⟩ := iterS hi
    unfold m_law13_near_L2 at h1
    try dsimp only at h1
    rcases condS h1 with ⟨hc14, h1⟩ | ⟨hc14, h1⟩
    · rw [hc14]
      cbv
      obtain ⟨hg15, h1⟩ := grdS h1
      refine ⟨idx_of hO hg15, ?_⟩
      obtain ⟨hg16, h1⟩ := grdS h1
      refine ⟨kin_of hO hg16, ?_⟩
      obtain ⟨hg17, h1⟩ := grdS h1
      refine ⟨inr_of hO hg17, ?_⟩
      obtain ⟨hg18, h1⟩ := grdS h1
      refine ⟨inr_of hO hg18, ?_⟩
      refine ⟨inr_of hO hg17, ?_⟩
      obtain ⟨hg19, h1⟩ := grdS h1
      refine ⟨inr_of hO hg19, ?_⟩
      obtain ⟨hg20, h1⟩ := grdS h1
      refine ⟨inr_of hO hg20, ?_⟩
      refine ⟨inr_of hO hg19, ?_⟩
      obtain ⟨hg21, h1⟩ := grdS h1
      refine ⟨room_of hO hg21, ?_⟩
      obtain ⟨hg22, h1⟩ := grdS h1
      refine ⟨room_of hO hg22, ?_⟩
      obtain ⟨hg23, h1⟩ := grdS h1
      refine ⟨inr_of hO hg23, ?_⟩
      cases h1
      exact ⟨_, [0, 1, 2, 3, 9, 5, 6], nextI hI2 hi2, by cbv; try simp, by first | exact Nat.lt_succ_self _ | omega⟩
    · rw [hc14]
      cbv
      cases h1
      cases exitI hi2
      try dsimp only at h0
      obtain ⟨hg24, h0⟩ := grdS h0
      refine ⟨inr_of hO hg24, ?_⟩
      try (rw [show (O .add 1 1) = 2 from by subst hO; rfl]; try cbv)
      try (rw [show (O .add 1 1) = 2 from by subst hO; rfl]; try cbv)
      rw [show (O .lt 2 (Int.ofNat 2)) = false from by subst hO; rfl]
      cbv
      cases h0
      exact fin_ok hX rfl ⟨[4], _, _, ⟨rfl, rfl⟩, rfl, rfl, rfl, rfl, by cbv; try simp⟩
end Go.Proofs.Ytfhfifcfkimgpaa
