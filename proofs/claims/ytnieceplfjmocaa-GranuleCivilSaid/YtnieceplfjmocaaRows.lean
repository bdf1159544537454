/-
  No cell of these rows narrows 'for every input' (looked for: loops, veiled, ifaces, maps, wideKeys, modest, calm, conditions, laid).
  DERIVED. THE GIVEN ROWS OF THIS SEAT. 9 by the template 'for every input the law returns true; each argument reads behind the call as it read before'; 0 by the template 'total and deterministic' (their statements: YtnieceplfjmocaaTotals.lean).
  GIVEN WITH THE SEED: the statements are not yours to turn. If you find one false, say at which input.
  Laid BY PROGRAM, IN A SANDBOX (cutbox-rows.mjs): the forced cells as the released guide's own fill.sh prints them over the translation a24347f9dd0fe650… (all of the seat's roots in one cut). By AI agents, Wed Nov 11 2026. No macro, syntax, notation, axiom, sorry.
-/
import Derived.Test.YtnieceplfjmocaaChecked
import GoSem.Claim
import GoSem.ClaimJoined
import GoSem.ClaimMapViews
import Derived.JoinedTies
import Derived.KernelRfl
namespace Go.Proofs.Ytnieceplfjmocaa
/- THE CELL 'sum', in the pinned program and in every row, IS THE sha256 OF THE DUMP (.gsa) THAT YtnieceplfjmocaaProg.lean LOADS. Nothing in Lean hashes anything: it is a label: what it is worth is what the hold of that sum in a sandbox is worth. -/
noncomputable def Try.pinned : Pinned := { name := "ytnieceplfjmocaa", sum := "a24347f9dd0fe650e15b52c561b7bb0b776e9fe8e2f63123662646640bfe8e58", checked := Try.checked }
namespace Rows
def none {H : Type} : Left H := { results := [], args := [] }

/-- 'civiltimelaw15.GranuleRepeats': WHATEVER THE INPUT: true; the input reads as it did. -/
def granuleRepeatsSpec : ChangeSpec := { name := "granuleRepeats", fn := fun _ => fun
  | [d1, d2, d3] => { results := [.lit (.bool true)], args := [d1, d2, d3] }
  | _ => none }
def granuleRepeatsRow : OpenClaim := { program := "ytnieceplfjmocaa", sum := "a24347f9dd0fe650e15b52c561b7bb0b776e9fe8e2f63123662646640bfe8e58", func := "civiltime/civiltimelaw15.GranuleRepeats", spec := "granuleRepeats", apart := false }
def GranuleRepeatsSaid : Prop := granuleRepeatsRow.holds Try.pinned (OpenSpec.ofChange granuleRepeatsSpec)

/-- ITS FALSE NEIGHBOUR: 'it returns false'. Refute it at one input. -/
def granuleRepeatsWrong : ChangeSpec := { name := "granuleRepeats", fn := fun _ => fun
  | [d1, d2, d3] => { results := [.lit (.bool false)], args := [d1, d2, d3] }
  | _ => none }
def GranuleRepeatsWrongFalsely : Prop := granuleRepeatsRow.holds Try.pinned (OpenSpec.ofChange granuleRepeatsWrong)

/-- 'civiltimelaw15.GranuleOf': WHATEVER THE INPUT: true; the input reads as it did. -/
def granuleOfSpec : ChangeSpec := { name := "granuleOf", fn := fun _ => fun
  | [d1, d2, d3] => { results := [.lit (.bool true)], args := [d1, d2, d3] }
  | _ => none }
def granuleOfRow : OpenClaim := { program := "ytnieceplfjmocaa", sum := "a24347f9dd0fe650e15b52c561b7bb0b776e9fe8e2f63123662646640bfe8e58", func := "civiltime/civiltimelaw15.GranuleOf", spec := "granuleOf", apart := false }
def GranuleOfSaid : Prop := granuleOfRow.holds Try.pinned (OpenSpec.ofChange granuleOfSpec)

/-- ITS FALSE NEIGHBOUR: 'it returns false'. Refute it at one input. -/
def granuleOfWrong : ChangeSpec := { name := "granuleOf", fn := fun _ => fun
  | [d1, d2, d3] => { results := [.lit (.bool false)], args := [d1, d2, d3] }
  | _ => none }
def GranuleOfWrongFalsely : Prop := granuleOfRow.holds Try.pinned (OpenSpec.ofChange granuleOfWrong)

/-- 'civiltimelaw15.GranuleFixed': WHATEVER THE INPUT: true; the input reads as it did. -/
def granuleFixedSpec : ChangeSpec := { name := "granuleFixed", fn := fun _ => fun
  | [d1, d2, d3] => { results := [.lit (.bool true)], args := [d1, d2, d3] }
  | _ => none }
def granuleFixedRow : OpenClaim := { program := "ytnieceplfjmocaa", sum := "a24347f9dd0fe650e15b52c561b7bb0b776e9fe8e2f63123662646640bfe8e58", func := "civiltime/civiltimelaw15.GranuleFixed", spec := "granuleFixed", apart := false }
def GranuleFixedSaid : Prop := granuleFixedRow.holds Try.pinned (OpenSpec.ofChange granuleFixedSpec)

/-- ITS FALSE NEIGHBOUR: 'it returns false'. Refute it at one input. -/
def granuleFixedWrong : ChangeSpec := { name := "granuleFixed", fn := fun _ => fun
  | [d1, d2, d3] => { results := [.lit (.bool false)], args := [d1, d2, d3] }
  | _ => none }
def GranuleFixedWrongFalsely : Prop := granuleFixedRow.holds Try.pinned (OpenSpec.ofChange granuleFixedWrong)

/-- 'civiltimelaw15.GranuleShifts': WHATEVER THE INPUT: true; the input reads as it did. -/
def granuleShiftsSpec : ChangeSpec := { name := "granuleShifts", fn := fun _ => fun
  | [d1, d2, d3] => { results := [.lit (.bool true)], args := [d1, d2, d3] }
  | _ => none }
def granuleShiftsRow : OpenClaim := { program := "ytnieceplfjmocaa", sum := "a24347f9dd0fe650e15b52c561b7bb0b776e9fe8e2f63123662646640bfe8e58", func := "civiltime/civiltimelaw15.GranuleShifts", spec := "granuleShifts", apart := false }
def GranuleShiftsSaid : Prop := granuleShiftsRow.holds Try.pinned (OpenSpec.ofChange granuleShiftsSpec)

/-- ITS FALSE NEIGHBOUR: 'it returns false'. Refute it at one input. -/
def granuleShiftsWrong : ChangeSpec := { name := "granuleShifts", fn := fun _ => fun
  | [d1, d2, d3] => { results := [.lit (.bool false)], args := [d1, d2, d3] }
  | _ => none }
def GranuleShiftsWrongFalsely : Prop := granuleShiftsRow.holds Try.pinned (OpenSpec.ofChange granuleShiftsWrong)

/-- 'civiltimelaw15.GranuleSpans': WHATEVER THE INPUT: true; the input reads as it did. -/
def granuleSpansSpec : ChangeSpec := { name := "granuleSpans", fn := fun _ => fun
  | [d1, d2, d3] => { results := [.lit (.bool true)], args := [d1, d2, d3] }
  | _ => none }
def granuleSpansRow : OpenClaim := { program := "ytnieceplfjmocaa", sum := "a24347f9dd0fe650e15b52c561b7bb0b776e9fe8e2f63123662646640bfe8e58", func := "civiltime/civiltimelaw15.GranuleSpans", spec := "granuleSpans", unfollowed := true, recurses := true, apart := false }
def GranuleSpansSaid : Prop := granuleSpansRow.holds Try.pinned (OpenSpec.ofChange granuleSpansSpec)

/-- ITS FALSE NEIGHBOUR: 'it returns false'. Refute it at one input. -/
def granuleSpansWrong : ChangeSpec := { name := "granuleSpans", fn := fun _ => fun
  | [d1, d2, d3] => { results := [.lit (.bool false)], args := [d1, d2, d3] }
  | _ => none }
def GranuleSpansWrongFalsely : Prop := granuleSpansRow.holds Try.pinned (OpenSpec.ofChange granuleSpansWrong)

/-- 'civiltimelaw15.GranuleOrder': WHATEVER THE INPUT: true; the input reads as it did. -/
def granuleOrderSpec : ChangeSpec := { name := "granuleOrder", fn := fun _ => fun
  | [d1, d2] => { results := [.lit (.bool true)], args := [d1, d2] }
  | _ => none }
def granuleOrderRow : OpenClaim := { program := "ytnieceplfjmocaa", sum := "a24347f9dd0fe650e15b52c561b7bb0b776e9fe8e2f63123662646640bfe8e58", func := "civiltime/civiltimelaw15.GranuleOrder", spec := "granuleOrder", unfollowed := true, recurses := true, apart := false }
def GranuleOrderSaid : Prop := granuleOrderRow.holds Try.pinned (OpenSpec.ofChange granuleOrderSpec)

/-- ITS FALSE NEIGHBOUR: 'it returns false'. Refute it at one input. -/
def granuleOrderWrong : ChangeSpec := { name := "granuleOrder", fn := fun _ => fun
  | [d1, d2] => { results := [.lit (.bool false)], args := [d1, d2] }
  | _ => none }
def GranuleOrderWrongFalsely : Prop := granuleOrderRow.holds Try.pinned (OpenSpec.ofChange granuleOrderWrong)

/-- 'civiltimelaw15.GranuleScales': WHATEVER THE INPUT: true; the input reads as it did. -/
def granuleScalesSpec : ChangeSpec := { name := "granuleScales", fn := fun _ => fun
  | [d1, d2, d3] => { results := [.lit (.bool true)], args := [d1, d2, d3] }
  | _ => none }
def granuleScalesRow : OpenClaim := { program := "ytnieceplfjmocaa", sum := "a24347f9dd0fe650e15b52c561b7bb0b776e9fe8e2f63123662646640bfe8e58", func := "civiltime/civiltimelaw15.GranuleScales", spec := "granuleScales", apart := false }
def GranuleScalesSaid : Prop := granuleScalesRow.holds Try.pinned (OpenSpec.ofChange granuleScalesSpec)

/-- ITS FALSE NEIGHBOUR: 'it returns false'. Refute it at one input. -/
def granuleScalesWrong : ChangeSpec := { name := "granuleScales", fn := fun _ => fun
  | [d1, d2, d3] => { results := [.lit (.bool false)], args := [d1, d2, d3] }
  | _ => none }
def GranuleScalesWrongFalsely : Prop := granuleScalesRow.holds Try.pinned (OpenSpec.ofChange granuleScalesWrong)

/-- 'civiltimelaw15.GranuleCivil': WHATEVER THE INPUT: true; the input reads as it did. -/
def granuleCivilSpec : ChangeSpec := { name := "granuleCivil", fn := fun _ => fun
  | [d1, d2] => { results := [.lit (.bool true)], args := [d1, d2] }
  | _ => none }
def granuleCivilRow : OpenClaim := { program := "ytnieceplfjmocaa", sum := "a24347f9dd0fe650e15b52c561b7bb0b776e9fe8e2f63123662646640bfe8e58", func := "civiltime/civiltimelaw15.GranuleCivil", spec := "granuleCivil", unfollowed := true, recurses := true, apart := false }
def GranuleCivilSaid : Prop := granuleCivilRow.holds Try.pinned (OpenSpec.ofChange granuleCivilSpec)

/-- ITS FALSE NEIGHBOUR: 'it returns false'. Refute it at one input. -/
def granuleCivilWrong : ChangeSpec := { name := "granuleCivil", fn := fun _ => fun
  | [d1, d2] => { results := [.lit (.bool false)], args := [d1, d2] }
  | _ => none }
def GranuleCivilWrongFalsely : Prop := granuleCivilRow.holds Try.pinned (OpenSpec.ofChange granuleCivilWrong)

/-- 'civiltimelaw15.GranulePoints': WHATEVER THE INPUT: true; the input reads as it did. -/
def granulePointsSpec : ChangeSpec := { name := "granulePoints", fn := fun _ => fun
  | [d1, d2] => { results := [.lit (.bool true)], args := [d1, d2] }
  | _ => none }
def granulePointsRow : OpenClaim := { program := "ytnieceplfjmocaa", sum := "a24347f9dd0fe650e15b52c561b7bb0b776e9fe8e2f63123662646640bfe8e58", func := "civiltime/civiltimelaw15.GranulePoints", spec := "granulePoints", unfollowed := true, recurses := true, apart := false }
def GranulePointsSaid : Prop := granulePointsRow.holds Try.pinned (OpenSpec.ofChange granulePointsSpec)

/-- ITS FALSE NEIGHBOUR: 'it returns false'. Refute it at one input. -/
def granulePointsWrong : ChangeSpec := { name := "granulePoints", fn := fun _ => fun
  | [d1, d2] => { results := [.lit (.bool false)], args := [d1, d2] }
  | _ => none }
def GranulePointsWrongFalsely : Prop := granulePointsRow.holds Try.pinned (OpenSpec.ofChange granulePointsWrong)

/- THE SECOND FORM. 'bulk': how many values and letters a reading holds, each counted each time it is reached (what is shared counts as often as it is met; a slice's spare places count too). A statement '..UptoSaid' is the law's where the arguments, and the package variables that the reading takes, are together of bulk at most 1048576: NARROWER than '..Said'. Prove '..Said' where nothing that the law and all that it calls make is longer than what came in: it says more and counts as full. Else prove '..UptoSaid'. A law counts once. -/
mutual
def uptoBulk {H : Type} : DataW H → Nat
  | .lit (.string bytes) => bytes.length + 1
  | .lit _ => 1
  | .nil => 1
  | .ptr d => uptoBulk d + 1
  | .slice elems spare => uptoBulkAll elems + uptoBulkAll spare + 1
  | .agg parts => uptoBulkAll parts + 1
  | .iface _ d => uptoBulk d + 1
  | .map entries => uptoBulkEntries entries + 1
  | .held _ => 1
def uptoBulkAll {H : Type} : List (DataW H) → Nat
  | [] => 0
  | d :: r => uptoBulk d + uptoBulkAll r
def uptoBulkEntries {H : Type} : List (Lit × DataW H) → Nat
  | [] => 0
  | x :: r => uptoBulkEntry x + uptoBulkEntries r
def uptoBulkEntry {H : Type} : Lit × DataW H → Nat
  | (.string bytes, d) => bytes.length + uptoBulk d + 1
  | (_, d) => uptoBulk d + 1
 end
def uptoSmall : (H : Type) → List (DataW H) → Bool := fun _ ds => decide (uptoBulkAll ds ≤ 1048576)
def OpenSpec.upto (s : _root_.Go.ChangeSpec) : _root_.Go.OpenSpec := { _root_.Go.OpenSpec.ofChange s with cond := some uptoSmall }

/-- 'civiltimelaw15.GranuleRepeats', WHERE WHAT IT READS IS OF BULK AT MOST 1048576: true; the input reads as it did. -/
def granuleRepeatsUptoRow : OpenClaim := { program := "ytnieceplfjmocaa", sum := "a24347f9dd0fe650e15b52c561b7bb0b776e9fe8e2f63123662646640bfe8e58", func := "civiltime/civiltimelaw15.GranuleRepeats", spec := "granuleRepeats", apart := false, narrowed := true }
def GranuleRepeatsUptoSaid : Prop := granuleRepeatsUptoRow.holds Try.pinned (OpenSpec.upto granuleRepeatsSpec)

/-- 'civiltimelaw15.GranuleOf', WHERE WHAT IT READS IS OF BULK AT MOST 1048576: true; the input reads as it did. -/
def granuleOfUptoRow : OpenClaim := { program := "ytnieceplfjmocaa", sum := "a24347f9dd0fe650e15b52c561b7bb0b776e9fe8e2f63123662646640bfe8e58", func := "civiltime/civiltimelaw15.GranuleOf", spec := "granuleOf", apart := false, narrowed := true }
def GranuleOfUptoSaid : Prop := granuleOfUptoRow.holds Try.pinned (OpenSpec.upto granuleOfSpec)

/-- 'civiltimelaw15.GranuleFixed', WHERE WHAT IT READS IS OF BULK AT MOST 1048576: true; the input reads as it did. -/
def granuleFixedUptoRow : OpenClaim := { program := "ytnieceplfjmocaa", sum := "a24347f9dd0fe650e15b52c561b7bb0b776e9fe8e2f63123662646640bfe8e58", func := "civiltime/civiltimelaw15.GranuleFixed", spec := "granuleFixed", apart := false, narrowed := true }
def GranuleFixedUptoSaid : Prop := granuleFixedUptoRow.holds Try.pinned (OpenSpec.upto granuleFixedSpec)

/-- 'civiltimelaw15.GranuleShifts', WHERE WHAT IT READS IS OF BULK AT MOST 1048576: true; the input reads as it did. -/
def granuleShiftsUptoRow : OpenClaim := { program := "ytnieceplfjmocaa", sum := "a24347f9dd0fe650e15b52c561b7bb0b776e9fe8e2f63123662646640bfe8e58", func := "civiltime/civiltimelaw15.GranuleShifts", spec := "granuleShifts", apart := false, narrowed := true }
def GranuleShiftsUptoSaid : Prop := granuleShiftsUptoRow.holds Try.pinned (OpenSpec.upto granuleShiftsSpec)

/-- 'civiltimelaw15.GranuleSpans', WHERE WHAT IT READS IS OF BULK AT MOST 1048576: true; the input reads as it did. -/
def granuleSpansUptoRow : OpenClaim := { program := "ytnieceplfjmocaa", sum := "a24347f9dd0fe650e15b52c561b7bb0b776e9fe8e2f63123662646640bfe8e58", func := "civiltime/civiltimelaw15.GranuleSpans", spec := "granuleSpans", unfollowed := true, recurses := true, apart := false, narrowed := true }
def GranuleSpansUptoSaid : Prop := granuleSpansUptoRow.holds Try.pinned (OpenSpec.upto granuleSpansSpec)

/-- 'civiltimelaw15.GranuleOrder', WHERE WHAT IT READS IS OF BULK AT MOST 1048576: true; the input reads as it did. -/
def granuleOrderUptoRow : OpenClaim := { program := "ytnieceplfjmocaa", sum := "a24347f9dd0fe650e15b52c561b7bb0b776e9fe8e2f63123662646640bfe8e58", func := "civiltime/civiltimelaw15.GranuleOrder", spec := "granuleOrder", unfollowed := true, recurses := true, apart := false, narrowed := true }
def GranuleOrderUptoSaid : Prop := granuleOrderUptoRow.holds Try.pinned (OpenSpec.upto granuleOrderSpec)

/-- 'civiltimelaw15.GranuleScales', WHERE WHAT IT READS IS OF BULK AT MOST 1048576: true; the input reads as it did. -/
def granuleScalesUptoRow : OpenClaim := { program := "ytnieceplfjmocaa", sum := "a24347f9dd0fe650e15b52c561b7bb0b776e9fe8e2f63123662646640bfe8e58", func := "civiltime/civiltimelaw15.GranuleScales", spec := "granuleScales", apart := false, narrowed := true }
def GranuleScalesUptoSaid : Prop := granuleScalesUptoRow.holds Try.pinned (OpenSpec.upto granuleScalesSpec)

/-- 'civiltimelaw15.GranuleCivil', WHERE WHAT IT READS IS OF BULK AT MOST 1048576: true; the input reads as it did. -/
def granuleCivilUptoRow : OpenClaim := { program := "ytnieceplfjmocaa", sum := "a24347f9dd0fe650e15b52c561b7bb0b776e9fe8e2f63123662646640bfe8e58", func := "civiltime/civiltimelaw15.GranuleCivil", spec := "granuleCivil", unfollowed := true, recurses := true, apart := false, narrowed := true }
def GranuleCivilUptoSaid : Prop := granuleCivilUptoRow.holds Try.pinned (OpenSpec.upto granuleCivilSpec)

/-- 'civiltimelaw15.GranulePoints', WHERE WHAT IT READS IS OF BULK AT MOST 1048576: true; the input reads as it did. -/
def granulePointsUptoRow : OpenClaim := { program := "ytnieceplfjmocaa", sum := "a24347f9dd0fe650e15b52c561b7bb0b776e9fe8e2f63123662646640bfe8e58", func := "civiltime/civiltimelaw15.GranulePoints", spec := "granulePoints", unfollowed := true, recurses := true, apart := false, narrowed := true }
def GranulePointsUptoSaid : Prop := granulePointsUptoRow.holds Try.pinned (OpenSpec.upto granulePointsSpec)

end Rows
end Go.Proofs.Ytnieceplfjmocaa
