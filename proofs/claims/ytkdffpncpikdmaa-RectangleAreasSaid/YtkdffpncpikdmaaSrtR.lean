/-
  The library's functions of this program (rectangles), by the kit's contracts and by hand.
-/
import Derived.Test.YtkdffpncpikdmaaCpt
import Derived.Test.YtkdffpncpikdmaaGrw
import Derived.Test.YtkdffpncpikdmaaAdd
import Derived.Test.YtkdffpncpikdmaaSrtLayR
import Derived.Test.YtkdffpncpikdmaaTabEq
namespace Go.Proofs.Ytkdffpncpikdmaa
open Go.RowKit
theorem cmp_runs : CmpB Try.prog 100 := by
  intro x y W
  have h1 := x.2
  have h2 := y.2
  obtain ⟨⟨a, b⟩, _⟩ := x
  obtain ⟨⟨c, d⟩, _⟩ := y
  have g1 : -4611686018427387904 ≤ a ∧ a ≤ 4611686018427387903 := h1
  have g2 : -4611686018427387904 ≤ c ∧ c ≤ 4611686018427387903 := h2
  have hw : IntKind.i64.wrap (a - c) = a - c := IntWalk.i64_in _ ⟨by omega, by omega⟩
  show Calls Try.prog 100 #[.agg #[.int .i64 a, .int .i64 b], .agg #[.int .i64 c, .int .i64 d]] W fun e w' => e = .returned (.int .i64 (a - c)) ∧ ∃ q os', w' = Sort.grow (W.drewN q) os'
  go_enter Try.func100, Try.ntmps100
  go_wp2
  go_ret
  exact ⟨rfl, 0, _, by rw [Sort.alloc_eq_grow, Sort.alloc_eq_grow, Sort.grow_grow]; rfl⟩
theorem srt_runs {n0 : Nat} {R : AV → List Ck → Prop} {O : Ops} {X : Cx} (hO : O = std) (hX : Good Try.prog n0 R X) {i : Nat} {T : TypeId} {l r : List (Int × Int)} {s : St} {K : AV → St → Prop} (hi : nthCk s.hp i = .own T .i2 l) (hv : m_sortSp O l = some r) (hK : K (.tup []) ⟨s.fr, setK s.hp i (.own T .i2 r)⟩) :
    X .call false 99 [.c (.sl i), .c (.fn 100 [])] s K :=
  call_sortSp laySp Try.isAgg32 Try.sizeOf32 rfl (enters_of Try.func100 (by kernel_rfl) rfl) cmp_runs (by kernel_rfl) hO hX hi hv hK
theorem srt_int {n0 : Nat} {R : AV → List Ck → Prop} {O : Ops} {X : Cx} (hO : O = std) (hX : Good Try.prog n0 R X) {i : Nat} {T : TypeId} {l r : List Int} {s : St} {K : AV → St → Prop} (hi : nthCk s.hp i = .own T .i1 l) (hv : m_sortI O l = some r) (hK : K (.tup []) ⟨s.fr, setK s.hp i (.own T .i1 r)⟩) :
    X .call false 52 [.c (.sl i)] s K :=
  call_sortI layI rfl (by kernel_rfl) hO hX hi hv hK
theorem cpt_int {n0 : Nat} {R : AV → List Ck → Prop} {O : Ops} {X : Cx} (hO : O = std) (hX : Good Try.prog n0 R X) {i : Nat} {T : TypeId} {l r : List Int} {s : St} {K : AV → St → Prop} (hi : nthCk s.hp i = .own T .i1 l) (hv : m_compI O l = some r) (hK : K (.c (.sl s.hp.length)) ⟨s.fr, setK s.hp i .gone ++ [.own T .i1 r]⟩) :
    X .call false 53 [.c (.sl i)] s K :=
  call_compI layC rfl (by kernel_rfl) hO hX hi hv hK
theorem grw_i4 {n0 : Nat} {R : AV → List Ck → Prop} {O : Ops} {X : Cx} (hO : O = std) (hX : Good Try.prog n0 R X) {n : Int} {r : List (Int × Int × Int × Int)} {s : St} {K : AV → St → Prop} (hv : m_grow_i4 O n = some r) (hK : K (.c (.sl s.hp.length)) ⟨s.fr, s.hp ++ [.own 34 .i4 r]⟩) :
    X .call false 57 [.c (.raw (.slice none 0 0)), .c (.int .i64 n)] s K :=
  call_grow4 layG tab_holds (te := (getTI tab 34).get (by kernel_rfl)) (Option.some_get _).symm (by kernel_rfl) (by kernel_rfl) rfl (by kernel_rfl) hO hX hv hK
set_option maxRecDepth 100000 in
theorem fn_clone_i2 {O0 : Ops} (hO0 : O0 = std) {l r1 : List (Int × Int)} (h : m_clone_i2 O0 l = some r1) :
    Fn Try.prog 98 [.c (.sl 0)] [.arr false .i2 l] (fun v cks => v = .c (.sl 1) ∧ cks = [.own 32 .i2 r1]) := by
  subst hO0
  unfold m_clone_i2 at h
  obtain ⟨hl, h⟩ := grdS h
  injection h with h
  subst h
  have hl : l.length ≤ 1099511627776 := of_decide_eq_true hl
  refine fn_run tab_holds eqs_holds mixed [] Try.func98 (by kernel_rfl) (by kernel_rfl) (Nat.le_of_ble_eq_true rfl) ?_
  intro O X hO hX
  cbv
  refine ⟨fun h => ?_, ?_⟩
  · have h0 : l = [] := by
      have := eq_t hO h
      rw [ofNat_e hO, len_e hO] at this
      exact List.eq_nil_of_length_eq_zero (Int.ofNat_eq_zero.1 this)
    subst h0
    cbv
    exact fin_ok hX rfl ⟨[2], .c (.sl 1), [.own 32 .i2 []], ⟨rfl, rfl⟩, rfl, rfl, rfl, rfl, by cbv; try simp⟩
  · cbv
    refine ⟨room_mk hO (by simp), room_mk hO hl, ?_⟩
    refine fin_ok hX rfl ⟨[3], .c (.sl 1), [.own 32 .i2 l], ⟨rfl, rfl⟩, rfl, rfl, rfl, rfl, ?_⟩
    rw [app_e hO]
    cbv; try simp
theorem fn_bits_Mul64 {O0 : Ops} (hO0 : O0 = std) {x y r1 r2 : Int} (h : m_bits_Mul64 O0 x y = some (r1, r2)) :
    Fn Try.prog 61 [.c (.int .u64 x), .c (.int .u64 y)] [] (fun v c => v = .tup [.one (.int .u64 r1), .one (.int .u64 r2)] ∧ c = []) := by
  subst hO0
  unfold m_bits_Mul64 at h
  obtain ⟨h1, h⟩ := grdS h
  obtain ⟨h2, h⟩ := grdS h
  have h1 : 0 ≤ x ∧ x < 18446744073709551616 := of_decide_eq_true h1
  have h2 : 0 ≤ y ∧ y < 18446744073709551616 := of_decide_eq_true h2
  obtain ⟨a, rfl⟩ : ∃ a : Nat, x = (a : Int) := ⟨x.toNat, by omega⟩
  obtain ⟨b, rfl⟩ : ∃ b : Nat, y = (b : Int) := ⟨y.toNat, by omega⟩
  simp only [Option.some.injEq, Prod.mk.injEq] at h
  obtain ⟨rfl, rfl⟩ := h
  refine fn_old [.int .u64 (a : Int), .int .u64 (b : Int)] (.tuple #[.int .u64 _, .int .u64 _]) (fun w => (Any.bits_Mul64 layM a b (by omega) (by omega) w).mono fun e w' ⟨h, hw⟩ => ⟨?_, by rw [hw]; exact Below.refl _ _⟩) (fun fs => rfl) (fun fs => rfl)
  rw [h]
  rfl
theorem ext_add64 {n0 : Nat} {R : AV → List Ck → Prop} {O : Ops} {X : Cx} (hO : O = std) (hX : Good Try.prog n0 R X) {q : Bool} {x y c r1 r2 : Int} {s : St} {K : AV → St → Prop} (hv : m_bits_Add64 O x y c = some (r1, r2)) (hK : K (.tup [.one (.int .u64 r1), .one (.int .u64 r2)]) s) :
    X .call q 63 [.c (.int .u64 x), .c (.int .u64 y), .c (.int .u64 c)] s K :=
  call_add64 layA rfl hO hX hv hK
end Go.Proofs.Ytkdffpncpikdmaa
