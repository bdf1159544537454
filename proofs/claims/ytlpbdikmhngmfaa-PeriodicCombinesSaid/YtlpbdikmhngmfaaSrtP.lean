/-
  The sorts of this program (periodic sets).
-/
import Derived.Test.YtlpbdikmhngmfaaSrtI
import Derived.Test.YtlpbdikmhngmfaaSrtLay
import Derived.Test.YtlpbdikmhngmfaaTabEq
namespace Go.Proofs.Ytlpbdikmhngmfaa
open Go.RowKit
theorem cmp_joined : CmpB Try.prog 89 := by
  intro x y W
  have h1 := x.2
  have h2 := y.2
  obtain ⟨⟨a, b⟩, _⟩ := x
  obtain ⟨⟨c, d⟩, _⟩ := y
  have g1 : -4611686018427387904 ≤ a ∧ a ≤ 4611686018427387903 := h1
  have g2 : -4611686018427387904 ≤ c ∧ c ≤ 4611686018427387903 := h2
  have hw : IntKind.i64.wrap (a - c) = a - c := IntWalk.i64_in _ ⟨by omega, by omega⟩
  show Calls Try.prog 89 #[.agg #[.int .i64 a, .int .i64 b], .agg #[.int .i64 c, .int .i64 d]] W fun e w' => e = .returned (.int .i64 (a - c)) ∧ ∃ q os', w' = Sort.grow (W.drewN q) os'
  go_enter Try.func89, Try.ntmps89
  go_wp2
  go_ret
  exact ⟨rfl, 0, _, by rw [Sort.alloc_eq_grow, Sort.alloc_eq_grow, Sort.grow_grow]; rfl⟩
theorem srt_joined {n0 : Nat} {R : AV → List Ck → Prop} {O : Ops} {X : Cx} (hO : O = std) (hX : Good Try.prog n0 R X) {i : Nat} {T : TypeId} {l r : List (Int × Int)} {s : St} {K : AV → St → Prop} (hi : nthCk s.hp i = .own T .i2 l) (hv : m_sortSp O l = some r) (hK : K (.tup []) ⟨s.fr, setK s.hp i (.own T .i2 r)⟩) :
    X .call false 88 [.c (.sl i), .c (.fn 89 [])] s K :=
  call_sortSp laySp Try.isAgg29 Try.sizeOf29 rfl (enters_of Try.func89 (by kernel_rfl) rfl) cmp_joined (by kernel_rfl) hO hX hi hv hK
theorem srt_int {n0 : Nat} {R : AV → List Ck → Prop} {O : Ops} {X : Cx} (hO : O = std) (hX : Good Try.prog n0 R X) {i : Nat} {T : TypeId} {l r : List Int} {s : St} {K : AV → St → Prop} (hi : nthCk s.hp i = .own T .i1 l) (hv : m_sortI O l = some r) (hK : K (.tup []) ⟨s.fr, setK s.hp i (.own T .i1 r)⟩) :
    X .call false 87 [.c (.sl i)] s K :=
  call_sortI layI rfl (by kernel_rfl) hO hX hi hv hK
end Go.Proofs.Ytlpbdikmhngmfaa
