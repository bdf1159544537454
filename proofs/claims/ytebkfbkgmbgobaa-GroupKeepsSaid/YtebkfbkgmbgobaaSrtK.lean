/-
  The sorts of this program (calendars restricted to periodic sets).
-/
import Derived.Test.YtebkfbkgmbgobaaSrtI
import Derived.Test.YtebkfbkgmbgobaaSrtLayK
import Derived.Test.YtebkfbkgmbgobaaTabEq
namespace Go.Proofs.Ytebkfbkgmbgobaa
open Go.RowKit
theorem srt_int {n0 : Nat} {R : AV → List Ck → Prop} {O : Ops} {X : Cx} (hO : O = std) (hX : Good Try.prog n0 R X) {i : Nat} {T : TypeId} {l r : List Int} {s : St} {K : AV → St → Prop} (hi : nthCk s.hp i = .own T .i1 l) (hv : m_sortI O l = some r) (hK : K (.tup []) ⟨s.fr, setK s.hp i (.own T .i1 r)⟩) :
    X .call false 86 [.c (.sl i)] s K :=
  call_sortI layI rfl (by kernel_rfl) hO hX hi hv hK
end Go.Proofs.Ytebkfbkgmbgobaa
