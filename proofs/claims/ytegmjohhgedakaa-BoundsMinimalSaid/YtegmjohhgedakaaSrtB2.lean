/-
  The library's functions of this program that change a slice of integers, by the kit's contracts.
-/
import Derived.Test.YtegmjohhgedakaaSrtB
import Derived.Test.YtegmjohhgedakaaDel
import Derived.Test.YtegmjohhgedakaaSrtLayB
namespace Go.Proofs.Ytegmjohhgedakaa
open Go.RowKit
theorem srt_int {n0 : Nat} {R : AV → List Ck → Prop} {O : Ops} {X : Cx} (hO : O = std) (hX : Good Try.prog n0 R X) {i : Nat} {T : TypeId} {l r : List Int} {s : St} {K : AV → St → Prop} (hi : nthCk s.hp i = .own T .i1 l) (hv : m_sortI O l = some r) (hK : K (.tup []) ⟨s.fr, setK s.hp i (.own T .i1 r)⟩) :
    X .call false 53 [.c (.sl i)] s K :=
  call_sortI layI rfl (by kernel_rfl) hO hX hi hv hK
theorem cpt_int {n0 : Nat} {R : AV → List Ck → Prop} {O : Ops} {X : Cx} (hO : O = std) (hX : Good Try.prog n0 R X) {i : Nat} {T : TypeId} {l r : List Int} {s : St} {K : AV → St → Prop} (hi : nthCk s.hp i = .own T .i1 l) (hv : m_compI O l = some r) (hK : K (.c (.sl s.hp.length)) ⟨s.fr, setK s.hp i .gone ++ [.own T .i1 r]⟩) :
    X .call false 38 [.c (.sl i)] s K :=
  call_compI layC rfl (by kernel_rfl) hO hX hi hv hK
theorem del_int {n0 : Nat} {R : AV → List Ck → Prop} {O : Ops} {X : Cx} (hO : O = std) (hX : Good Try.prog n0 R X) {i : Nat} {T : TypeId} {l r : List Int} {a b : Int} {s : St} {K : AV → St → Prop} (hi : nthCk s.hp i = .own T .i1 l) (hv : m_delI O l a b = some r) (hK : K (.c (.sl s.hp.length)) ⟨s.fr, setK s.hp i .gone ++ [.own T .i1 r]⟩) :
    X .call false 41 [.c (.sl i), .c (.int .i64 a), .c (.int .i64 b)] s K :=
  call_delI layD rfl (by kernel_rfl) hO hX hi hv hK
end Go.Proofs.Ytegmjohhgedakaa
