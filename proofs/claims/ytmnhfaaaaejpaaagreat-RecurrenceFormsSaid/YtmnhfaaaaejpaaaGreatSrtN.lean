/-
  The library's functions of this program (recurrences), by the kit's contracts and by hand.
-/
import Derived.Test.YtmnhfaaaaejpaaaGreatCpt
import Derived.Test.YtmnhfaaaaejpaaaGreatSrtLayN
import Derived.Test.YtmnhfaaaaejpaaaGreatTabEq
import Derived.Test.YtmnhfaaaaejpaaaGreatManN
namespace Go.Proofs.YtmnhfaaaaejpaaaGreat
open Go.RowKit
theorem srt_int {n0 : Nat} {R : AV → List Ck → Prop} {O : Ops} {X : Cx} (hO : O = std) (hX : Good Tryz.prog n0 R X) {i : Nat} {T : TypeId} {l r : List Int} {s : St} {K : AV → St → Prop} (hi : nthCk s.hp i = .own T .i1 l) (hv : m_sortI O l = some r) (hK : K (.tup []) ⟨s.fr, setK s.hp i (.own T .i1 r)⟩) :
    X .call false 46 [.c (.sl i)] s K :=
  call_sortI layI rfl (by kernel_rfl) hO hX hi hv hK
theorem cpt_int {n0 : Nat} {R : AV → List Ck → Prop} {O : Ops} {X : Cx} (hO : O = std) (hX : Good Tryz.prog n0 R X) {i : Nat} {T : TypeId} {l r : List Int} {s : St} {K : AV → St → Prop} (hi : nthCk s.hp i = .own T .i1 l) (hv : m_compI O l = some r) (hK : K (.c (.sl s.hp.length)) ⟨s.fr, setK s.hp i .gone ++ [.own T .i1 r]⟩) :
    X .call false 47 [.c (.sl i)] s K :=
  call_compI layC rfl (by kernel_rfl) hO hX hi hv hK
set_option maxRecDepth 100000 in
theorem fn_clone_i1 {O0 : Ops} (hO0 : O0 = std) {l r1 : List Int} (h : m_clone_i1 O0 l = some r1) :
    Fn Tryz.prog 45 [.c (.sl 0)] [.arr false .i1 l] (fun v cks => v = .c (.sl 1) ∧ cks = [.own 3 .i1 r1]) := by
  subst hO0
  unfold m_clone_i1 at h
  obtain ⟨hl, h⟩ := grdS h
  injection h with h
  subst h
  have hl : l.length ≤ 1099511627776 := of_decide_eq_true hl
  refine fn_run tab_holds eqs_holds mixed [] Tryz.func45 (by kernel_rfl) (by kernel_rfl) (Nat.le_of_ble_eq_true rfl) ?_
  intro O X hO hX
  cbv
  refine ⟨fun h => ?_, ?_⟩
  · have h0 : l = [] := by
      have := eq_t hO h
      rw [ofNat_e hO, len_e hO] at this
      exact List.eq_nil_of_length_eq_zero (Int.ofNat_eq_zero.1 this)
    subst h0
    cbv
    exact fin_ok hX rfl ⟨[2], .c (.sl 1), [.own 3 .i1 []], ⟨rfl, rfl⟩, rfl, rfl, rfl, rfl, by cbv; try simp⟩
  · cbv
    refine ⟨room_mk hO (by simp), room_mk hO hl, ?_⟩
    refine fin_ok hX rfl ⟨[3], .c (.sl 1), [.own 3 .i1 l], ⟨rfl, rfl⟩, rfl, rfl, rfl, rfl, ?_⟩
    rw [app_e hO]
    cbv; try simp
end Go.Proofs.YtmnhfaaaaejpaaaGreat
