/-
  The sorts of this program.
-/
import Derived.Test.YtoklfjkanipjkaaSrt
import Derived.Test.YtoklfjkanipjkaaSrtLay
import Derived.Test.YtoklfjkanipjkaaTabEq
namespace Go.Proofs.Ytoklfjkanipjkaa
open Go.RowKit
theorem cmp_Merge : CmpB Try.prog 77 := by
  intro x y W
  have h1 := x.2
  have h2 := y.2
  obtain ⟨⟨a, b⟩, _⟩ := x
  obtain ⟨⟨c, d⟩, _⟩ := y
  have g1 : -4611686018427387904 ≤ a ∧ a ≤ 4611686018427387903 := h1
  have g2 : -4611686018427387904 ≤ c ∧ c ≤ 4611686018427387903 := h2
  have hw : IntKind.i64.wrap (a - c) = a - c := IntWalk.i64_in _ ⟨by omega, by omega⟩
  show Calls Try.prog 77 #[.agg #[.int .i64 a, .int .i64 b], .agg #[.int .i64 c, .int .i64 d]] W fun e w' => e = .returned (.int .i64 (a - c)) ∧ ∃ q os', w' = Sort.grow (W.drewN q) os'
  go_enter Try.func77, Try.ntmps77
  go_wp2
  go_ret
  exact ⟨rfl, 0, _, by rw [Sort.alloc_eq_grow, Sort.alloc_eq_grow, Sort.grow_grow]; rfl⟩
theorem srt_Merge {n0 : Nat} {R : AV → List Ck → Prop} {O : Ops} {X : Cx} (hO : O = std) (hX : Good Try.prog n0 R X) {i : Nat} {T : TypeId} {l r : List (Int × Int)} {s : St} {K : AV → St → Prop} (hi : nthCk s.hp i = .own T .i2 l) (hv : m_sortSp O l = some r) (hK : K (.tup []) ⟨s.fr, setK s.hp i (.own T .i2 r)⟩) :
    X .call false 76 [.c (.sl i), .c (.fn 77 [])] s K :=
  call_sortSp laySp Try.isAgg49 Try.sizeOf49 rfl (enters_of Try.func77 (by kernel_rfl) rfl) cmp_Merge (by kernel_rfl) hO hX hi hv hK
end Go.Proofs.Ytoklfjkanipjkaa
