/-
  The code does what its models say (printed by lift.py).
-/
import Derived.Test.YtkdffpncpikdmaaRM
import Derived.Test.YtkdffpncpikdmaaSrtR
import Derived.Test.YtkdffpncpikdmaaSrtR
namespace Go.Proofs.Ytkdffpncpikdmaa
open Go.RowKit
set_option maxRecDepth 100000

set_option maxHeartbeats 40000000 in
theorem fn_law35_critical {O0 : Ops} (hO0 : O0 = std) {lists_1 : List (Int × Int × Int × Int)} {lists_2 : List (Int × Int × Int × Int)} {r1 : List Int} {r2 : List Int} (h : m_law35_critical O0 lists_1 lists_2 = some (r1, r2)) :
    Fn Try.prog 27 [.c (.asl 0 2)] [.ro 22 [.sl 1, .sl 2], .arr false .i4 lists_1, .arr false .i4 lists_2] (fun v c => v = .tup [.one (.sl 3), .one (.sl 4)] ∧ c = [.own 3 .i1 r1, .own 3 .i1 r2]) := by
  refine fn_run tab_holds eqs_holds mixed [] Try.func27 (by kernel_rfl) (by kernel_rfl) (Nat.le_of_ble_eq_true rfl) ?_
  intro O X hO hX
  rw [hO0, ← hO] at h
  unfold m_law35_critical at h
  have h0 := h; clear h
  cbv
  refine loop_unroll tab_holds eqs_holds mixed [] hO hX 3 (by kernel_rfl) ?_
  cbv
  rw [show (O .lt 0 (Int.ofNat 2)) = true from by subst hO; rfl]
  cbv
  obtain ⟨⟨l241, l242⟩, hi, h0⟩ := bindS h0
  obtain ⟨I1, hI1, hi⟩ := loopS hi
  refine loop1 tab_holds eqs_holds mixed [] hO hX I1 (fun y => [(2, .c (.sl 3)), (3, .c (.sl 4)), (16, .c (.int .i64 y.2.1))]) (fun y => [(3, .own 3 .i1 y.2.2.1), (4, .own 3 .i1 y.2.2.2)]) (fun y => y.1) _ (by kernel_rfl) hi (by cbv; try simp) ?_
  refine allp ?_
  intro n1
  refine allp ?_
  intro x234
  refine allp ?_
  intro l239
  intro l240 hi
  cbv
  rw [hI1] at hi
  obtain ⟨n1, rfl, x1, h1, hi1⟩ := iterS hi
  unfold m_law35_critical_L1 at h1
  try dsimp only at h1
  rcases condS h1 with ⟨hc1, h1⟩ | ⟨hc1, h1⟩
  · rw [hc1]
    cbv
    obtain ⟨hg2, h1⟩ := grdS h1
    refine ⟨idx_of hO hg2, ?_⟩
    obtain ⟨hg3, h1⟩ := grdS h1
    refine ⟨kin_of hO hg3, ?_⟩
    obtain ⟨hg4, h1⟩ := grdS h1
    refine ⟨inr_of hO hg4, ?_⟩
    obtain ⟨hg5, h1⟩ := grdS h1
    refine ⟨inr_of hO hg5, ?_⟩
    obtain ⟨hg6, h1⟩ := grdS h1
    refine ⟨room_of hO hg6, ?_⟩
    obtain ⟨hg7, h1⟩ := grdS h1
    refine ⟨room_of hO hg7, ?_⟩
    obtain ⟨hg8, h1⟩ := grdS h1
    refine ⟨inr_of hO hg8, ?_⟩
    obtain ⟨hg9, h1⟩ := grdS h1
    refine ⟨inr_of hO hg9, ?_⟩
    obtain ⟨hg10, h1⟩ := grdS h1
    refine ⟨room_of hO hg10, ?_⟩
    obtain ⟨hg11, h1⟩ := grdS h1
    refine ⟨room_of hO hg11, ?_⟩
    obtain ⟨hg12, h1⟩ := grdS h1
    refine ⟨inr_of hO hg12, ?_⟩
    cases h1
    exact ⟨_, [0, 1, 2, 7, 9], nextI hI1 hi1, by cbv; try simp, by first | exact Nat.lt_succ_self _ | omega⟩
  · as_aux_lemma =>
    rw [hc1]
    cbv
    cases h1
    cases exitI hi1
    try dsimp only at h0
    obtain ⟨hg13, h0⟩ := grdS h0
    refine ⟨inr_of hO hg13, ?_⟩
    try (rw [show (O .add 0 1) = 1 from by subst hO; rfl]; try cbv)
    try (rw [show (O .add 0 1) = 1 from by subst hO; rfl]; try cbv)
    rw [show (O .lt 1 (Int.ofNat 2)) = true from by subst hO; rfl]
    cbv
    obtain ⟨⟨l245, l246⟩, hi, h0⟩ := bindS h0
    obtain ⟨I2, hI2, hi⟩ := loopS hi
    refine loop1 tab_holds eqs_holds mixed [] hO hX I2 (fun y => [(2, .c (.sl 3)), (3, .c (.sl 4)), (16, .c (.int .i64 y.2.1))]) (fun y => [(3, .own 3 .i1 y.2.2.1), (4, .own 3 .i1 y.2.2.2)]) (fun y => y.1) _ (by kernel_rfl) hi (by cbv; try simp) ?_
    refine allp ?_
    intro n2
    refine allp ?_
    intro x236
    refine allp ?_
    intro l243
    intro l244 hi
    cbv
    rw [hI2] at hi
    obtain ⟨n2, rfl, x2, h1, hi2⟩ := iterS hi
    unfold m_law35_critical_L2 at h1
    try dsimp only at h1
    rcases condS h1 with ⟨hc14, h1⟩ | ⟨hc14, h1⟩
    · rw [hc14]
      cbv
      obtain ⟨hg15, h1⟩ := grdS h1
      refine ⟨idx_of hO hg15, ?_⟩
      obtain ⟨hg16, h1⟩ := grdS h1
      refine ⟨kin_of hO hg16, ?_⟩
      obtain ⟨hg17, h1⟩ := grdS h1
      refine ⟨inr_of hO hg17, ?_⟩
      obtain ⟨hg18, h1⟩ := grdS h1
      refine ⟨inr_of hO hg18, ?_⟩
      obtain ⟨hg19, h1⟩ := grdS h1
      refine ⟨room_of hO hg19, ?_⟩
      obtain ⟨hg20, h1⟩ := grdS h1
      refine ⟨room_of hO hg20, ?_⟩
      obtain ⟨hg21, h1⟩ := grdS h1
      refine ⟨inr_of hO hg21, ?_⟩
      obtain ⟨hg22, h1⟩ := grdS h1
      refine ⟨inr_of hO hg22, ?_⟩
      obtain ⟨hg23, h1⟩ := grdS h1
      refine ⟨room_of hO hg23, ?_⟩
      obtain ⟨hg24, h1⟩ := grdS h1
      refine ⟨room_of hO hg24, ?_⟩
      obtain ⟨hg25, h1⟩ := grdS h1
      refine ⟨inr_of hO hg25, ?_⟩
      cases h1
      exact ⟨_, [0, 1, 2, 7, 9], nextI hI2 hi2, by cbv; try simp, by first | exact Nat.lt_succ_self _ | omega⟩
    · rw [hc14]
      cbv
      cases h1
      cases exitI hi2
      try dsimp only at h0
      obtain ⟨hg26, h0⟩ := grdS h0
      refine ⟨inr_of hO hg26, ?_⟩
      try (rw [show (O .add 1 1) = 2 from by subst hO; rfl]; try cbv)
      try (rw [show (O .add 1 1) = 2 from by subst hO; rfl]; try cbv)
      rw [show (O .lt 2 (Int.ofNat 2)) = false from by subst hO; rfl]
      cbv
      obtain ⟨l247, hv, h0⟩ := bindS h0
      refine srt_int hO hX (i := 3) rfl hv ?_
      cbv
      obtain ⟨l248, hv, h0⟩ := bindS h0
      refine srt_int hO hX (i := 4) rfl hv ?_
      cbv
      obtain ⟨l249, hv, h0⟩ := bindS h0
      refine cpt_int hO hX (i := 3) rfl hv ?_
      cbv
      obtain ⟨l250, hv, h0⟩ := bindS h0
      refine cpt_int hO hX (i := 4) rfl hv ?_
      cbv
      cases h0
      exact fin_ok hX rfl ⟨[5, 6], _, _, ⟨rfl, rfl⟩, rfl, rfl, rfl, rfl, by cbv; try simp⟩
end Go.Proofs.Ytkdffpncpikdmaa
