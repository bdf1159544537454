/-
  No cell of these rows narrows 'for every input' (looked for: loops, veiled, ifaces, maps, wideKeys, modest, calm, conditions, laid).
  DERIVED. THE GIVEN ROWS OF THIS SEAT. 8 by the template 'for every input the law returns true; each argument reads behind the call as it read before'; 0 by the template 'total and deterministic' (their statements: YtegmjohhgedakaaTotals.lean).
  GIVEN WITH THE SEED: the statements are not yours to turn. If you find one false, say at which input.
  Laid BY PROGRAM, IN A SANDBOX (cutbox-rows.mjs): the forced cells as the released guide's own fill.sh prints them over the translation 8f590bea6a2a39d5… (all of the seat's roots in one cut). By AI agents, Wed Nov 11 2026. No macro, syntax, notation, axiom, sorry.
-/
import Derived.Test.YtegmjohhgedakaaChecked
import GoSem.Claim
import GoSem.ClaimJoined
import GoSem.ClaimMapViews
import Derived.JoinedTies
import Derived.KernelRfl
namespace Go.Proofs.Ytegmjohhgedakaa
/- THE CELL 'sum', in the pinned program and in every row, IS THE sha256 OF THE DUMP (.gsa) THAT YtegmjohhgedakaaProg.lean LOADS. Nothing in Lean hashes anything: it is a label: what it is worth is what the hold of that sum in a sandbox is worth. -/
noncomputable def Try.pinned : Pinned := { name := "ytegmjohhgedakaa", sum := "8f590bea6a2a39d560d14eee5db682ef685a6d68935a1a0eafb5bf08fec64caf", checked := Try.checked }
namespace Rows
def none {H : Type} : Left H := { results := [], args := [] }

/-- 'civiltimelaw45.BoundsCycles': WHATEVER THE INPUT: true; the input reads as it did. -/
def boundsCyclesSpec : ChangeSpec := { name := "boundsCycles", fn := fun _ => fun
  | [d1, d2] => { results := [.lit (.bool true)], args := [d1, d2] }
  | _ => none }
def boundsCyclesRow : OpenClaim := { program := "ytegmjohhgedakaa", sum := "8f590bea6a2a39d560d14eee5db682ef685a6d68935a1a0eafb5bf08fec64caf", func := "civiltime/civiltimelaw45.BoundsCycles", spec := "boundsCycles", unfollowed := true, recurses := true, apart := false }
def BoundsCyclesSaid : Prop := boundsCyclesRow.holds Try.pinned (OpenSpec.ofChange boundsCyclesSpec)

/-- ITS FALSE NEIGHBOUR: 'it returns false'. Refute it at one input. -/
def boundsCyclesWrong : ChangeSpec := { name := "boundsCycles", fn := fun _ => fun
  | [d1, d2] => { results := [.lit (.bool false)], args := [d1, d2] }
  | _ => none }
def BoundsCyclesWrongFalsely : Prop := boundsCyclesRow.holds Try.pinned (OpenSpec.ofChange boundsCyclesWrong)

/-- 'civiltimelaw45.BoundsBetween': WHATEVER THE INPUT: true; the input reads as it did. -/
def boundsBetweenSpec : ChangeSpec := { name := "boundsBetween", fn := fun _ => fun
  | [d1, d2, d3, d4] => { results := [.lit (.bool true)], args := [d1, d2, d3, d4] }
  | _ => none }
def boundsBetweenRow : OpenClaim := { program := "ytegmjohhgedakaa", sum := "8f590bea6a2a39d560d14eee5db682ef685a6d68935a1a0eafb5bf08fec64caf", func := "civiltime/civiltimelaw45.BoundsBetween", spec := "boundsBetween", unfollowed := true, recurses := true, apart := false }
def BoundsBetweenSaid : Prop := boundsBetweenRow.holds Try.pinned (OpenSpec.ofChange boundsBetweenSpec)

/-- ITS FALSE NEIGHBOUR: 'it returns false'. Refute it at one input. -/
def boundsBetweenWrong : ChangeSpec := { name := "boundsBetween", fn := fun _ => fun
  | [d1, d2, d3, d4] => { results := [.lit (.bool false)], args := [d1, d2, d3, d4] }
  | _ => none }
def BoundsBetweenWrongFalsely : Prop := boundsBetweenRow.holds Try.pinned (OpenSpec.ofChange boundsBetweenWrong)

/-- 'civiltimelaw45.BoundsTight': WHATEVER THE INPUT: true; the input reads as it did. -/
def boundsTightSpec : ChangeSpec := { name := "boundsTight", fn := fun _ => fun
  | [d1, d2] => { results := [.lit (.bool true)], args := [d1, d2] }
  | _ => none }
def boundsTightRow : OpenClaim := { program := "ytegmjohhgedakaa", sum := "8f590bea6a2a39d560d14eee5db682ef685a6d68935a1a0eafb5bf08fec64caf", func := "civiltime/civiltimelaw45.BoundsTight", spec := "boundsTight", unfollowed := true, recurses := true, apart := false }
def BoundsTightSaid : Prop := boundsTightRow.holds Try.pinned (OpenSpec.ofChange boundsTightSpec)

/-- ITS FALSE NEIGHBOUR: 'it returns false'. Refute it at one input. -/
def boundsTightWrong : ChangeSpec := { name := "boundsTight", fn := fun _ => fun
  | [d1, d2] => { results := [.lit (.bool false)], args := [d1, d2] }
  | _ => none }
def BoundsTightWrongFalsely : Prop := boundsTightRow.holds Try.pinned (OpenSpec.ofChange boundsTightWrong)

/-- 'civiltimelaw45.BoundsTriangle': WHATEVER THE INPUT: true; the input reads as it did. -/
def boundsTriangleSpec : ChangeSpec := { name := "boundsTriangle", fn := fun _ => fun
  | [d1, d2, d3, d4] => { results := [.lit (.bool true)], args := [d1, d2, d3, d4] }
  | _ => none }
def boundsTriangleRow : OpenClaim := { program := "ytegmjohhgedakaa", sum := "8f590bea6a2a39d560d14eee5db682ef685a6d68935a1a0eafb5bf08fec64caf", func := "civiltime/civiltimelaw45.BoundsTriangle", spec := "boundsTriangle", unfollowed := true, recurses := true, apart := false }
def BoundsTriangleSaid : Prop := boundsTriangleRow.holds Try.pinned (OpenSpec.ofChange boundsTriangleSpec)

/-- ITS FALSE NEIGHBOUR: 'it returns false'. Refute it at one input. -/
def boundsTriangleWrong : ChangeSpec := { name := "boundsTriangle", fn := fun _ => fun
  | [d1, d2, d3, d4] => { results := [.lit (.bool false)], args := [d1, d2, d3, d4] }
  | _ => none }
def BoundsTriangleWrongFalsely : Prop := boundsTriangleRow.holds Try.pinned (OpenSpec.ofChange boundsTriangleWrong)

/-- 'civiltimelaw45.BoundsSchedules': WHATEVER THE INPUT: true; the input reads as it did. -/
def boundsSchedulesSpec : ChangeSpec := { name := "boundsSchedules", fn := fun _ => fun
  | [d1, d2, d3] => { results := [.lit (.bool true)], args := [d1, d2, d3] }
  | _ => none }
def boundsSchedulesRow : OpenClaim := { program := "ytegmjohhgedakaa", sum := "8f590bea6a2a39d560d14eee5db682ef685a6d68935a1a0eafb5bf08fec64caf", func := "civiltime/civiltimelaw45.BoundsSchedules", spec := "boundsSchedules", unfollowed := true, recurses := true, apart := false }
def BoundsSchedulesSaid : Prop := boundsSchedulesRow.holds Try.pinned (OpenSpec.ofChange boundsSchedulesSpec)

/-- ITS FALSE NEIGHBOUR: 'it returns false'. Refute it at one input. -/
def boundsSchedulesWrong : ChangeSpec := { name := "boundsSchedules", fn := fun _ => fun
  | [d1, d2, d3] => { results := [.lit (.bool false)], args := [d1, d2, d3] }
  | _ => none }
def BoundsSchedulesWrongFalsely : Prop := boundsSchedulesRow.holds Try.pinned (OpenSpec.ofChange boundsSchedulesWrong)

/-- 'civiltimelaw45.BoundsAdds': WHATEVER THE INPUT: true; the input reads as it did. -/
def boundsAddsSpec : ChangeSpec := { name := "boundsAdds", fn := fun _ => fun
  | [d1, d2, d3, d4] => { results := [.lit (.bool true)], args := [d1, d2, d3, d4] }
  | _ => none }
def boundsAddsRow : OpenClaim := { program := "ytegmjohhgedakaa", sum := "8f590bea6a2a39d560d14eee5db682ef685a6d68935a1a0eafb5bf08fec64caf", func := "civiltime/civiltimelaw45.BoundsAdds", spec := "boundsAdds", unfollowed := true, recurses := true, apart := false }
def BoundsAddsSaid : Prop := boundsAddsRow.holds Try.pinned (OpenSpec.ofChange boundsAddsSpec)

/-- ITS FALSE NEIGHBOUR: 'it returns false'. Refute it at one input. -/
def boundsAddsWrong : ChangeSpec := { name := "boundsAdds", fn := fun _ => fun
  | [d1, d2, d3, d4] => { results := [.lit (.bool false)], args := [d1, d2, d3, d4] }
  | _ => none }
def BoundsAddsWrongFalsely : Prop := boundsAddsRow.holds Try.pinned (OpenSpec.ofChange boundsAddsWrong)

/-- 'civiltimelaw45.BoundsKeeps': WHATEVER THE INPUT: true; the input reads as it did. -/
def boundsKeepsSpec : ChangeSpec := { name := "boundsKeeps", fn := fun _ => fun
  | [d1, d2, d3, d4] => { results := [.lit (.bool true)], args := [d1, d2, d3, d4] }
  | _ => none }
def boundsKeepsRow : OpenClaim := { program := "ytegmjohhgedakaa", sum := "8f590bea6a2a39d560d14eee5db682ef685a6d68935a1a0eafb5bf08fec64caf", func := "civiltime/civiltimelaw45.BoundsKeeps", spec := "boundsKeeps", unfollowed := true, recurses := true, apart := false }
def BoundsKeepsSaid : Prop := boundsKeepsRow.holds Try.pinned (OpenSpec.ofChange boundsKeepsSpec)

/-- ITS FALSE NEIGHBOUR: 'it returns false'. Refute it at one input. -/
def boundsKeepsWrong : ChangeSpec := { name := "boundsKeeps", fn := fun _ => fun
  | [d1, d2, d3, d4] => { results := [.lit (.bool false)], args := [d1, d2, d3, d4] }
  | _ => none }
def BoundsKeepsWrongFalsely : Prop := boundsKeepsRow.holds Try.pinned (OpenSpec.ofChange boundsKeepsWrong)

/-- 'civiltimelaw45.BoundsMinimal': WHATEVER THE INPUT: true; the input reads as it did. -/
def boundsMinimalSpec : ChangeSpec := { name := "boundsMinimal", fn := fun _ => fun
  | [d1, d2] => { results := [.lit (.bool true)], args := [d1, d2] }
  | _ => none }
def boundsMinimalRow : OpenClaim := { program := "ytegmjohhgedakaa", sum := "8f590bea6a2a39d560d14eee5db682ef685a6d68935a1a0eafb5bf08fec64caf", func := "civiltime/civiltimelaw45.BoundsMinimal", spec := "boundsMinimal", unfollowed := true, recurses := true, apart := false }
def BoundsMinimalSaid : Prop := boundsMinimalRow.holds Try.pinned (OpenSpec.ofChange boundsMinimalSpec)

/-- ITS FALSE NEIGHBOUR: 'it returns false'. Refute it at one input. -/
def boundsMinimalWrong : ChangeSpec := { name := "boundsMinimal", fn := fun _ => fun
  | [d1, d2] => { results := [.lit (.bool false)], args := [d1, d2] }
  | _ => none }
def BoundsMinimalWrongFalsely : Prop := boundsMinimalRow.holds Try.pinned (OpenSpec.ofChange boundsMinimalWrong)

/- THE SECOND FORM. 'bulk': how many values and letters a reading holds, each counted each time it is reached (what is shared counts as often as it is met; a slice's spare places count too). A statement '..UptoSaid' is the law's where the arguments, and the package variables that the reading takes, are together of bulk at most 1048576: NARROWER than '..Said'. Prove '..Said' where nothing that the law and all that it calls make is longer than what came in: it says more and counts as full. Else prove '..UptoSaid'. A law counts once. -/
mutual
def uptoBulk {H : Type} : DataW H → Nat
  | .lit (.string bytes) => bytes.length + 1
  | .lit _ => 1
  | .nil => 1
  | .ptr d => uptoBulk d + 1
  | .slice elems spare => uptoBulkAll elems + uptoBulkAll spare + 1
  | .agg parts => uptoBulkAll parts + 1
  | .iface _ d => uptoBulk d + 1
  | .map entries => uptoBulkEntries entries + 1
  | .held _ => 1
def uptoBulkAll {H : Type} : List (DataW H) → Nat
  | [] => 0
  | d :: r => uptoBulk d + uptoBulkAll r
def uptoBulkEntries {H : Type} : List (Lit × DataW H) → Nat
  | [] => 0
  | x :: r => uptoBulkEntry x + uptoBulkEntries r
def uptoBulkEntry {H : Type} : Lit × DataW H → Nat
  | (.string bytes, d) => bytes.length + uptoBulk d + 1
  | (_, d) => uptoBulk d + 1
 end
def uptoSmall : (H : Type) → List (DataW H) → Bool := fun _ ds => decide (uptoBulkAll ds ≤ 1048576)
def OpenSpec.upto (s : _root_.Go.ChangeSpec) : _root_.Go.OpenSpec := { _root_.Go.OpenSpec.ofChange s with cond := some uptoSmall }

/-- 'civiltimelaw45.BoundsCycles', WHERE WHAT IT READS IS OF BULK AT MOST 1048576: true; the input reads as it did. -/
def boundsCyclesUptoRow : OpenClaim := { program := "ytegmjohhgedakaa", sum := "8f590bea6a2a39d560d14eee5db682ef685a6d68935a1a0eafb5bf08fec64caf", func := "civiltime/civiltimelaw45.BoundsCycles", spec := "boundsCycles", unfollowed := true, recurses := true, apart := false, narrowed := true }
def BoundsCyclesUptoSaid : Prop := boundsCyclesUptoRow.holds Try.pinned (OpenSpec.upto boundsCyclesSpec)

/-- 'civiltimelaw45.BoundsBetween', WHERE WHAT IT READS IS OF BULK AT MOST 1048576: true; the input reads as it did. -/
def boundsBetweenUptoRow : OpenClaim := { program := "ytegmjohhgedakaa", sum := "8f590bea6a2a39d560d14eee5db682ef685a6d68935a1a0eafb5bf08fec64caf", func := "civiltime/civiltimelaw45.BoundsBetween", spec := "boundsBetween", unfollowed := true, recurses := true, apart := false, narrowed := true }
def BoundsBetweenUptoSaid : Prop := boundsBetweenUptoRow.holds Try.pinned (OpenSpec.upto boundsBetweenSpec)

/-- 'civiltimelaw45.BoundsTight', WHERE WHAT IT READS IS OF BULK AT MOST 1048576: true; the input reads as it did. -/
def boundsTightUptoRow : OpenClaim := { program := "ytegmjohhgedakaa", sum := "8f590bea6a2a39d560d14eee5db682ef685a6d68935a1a0eafb5bf08fec64caf", func := "civiltime/civiltimelaw45.BoundsTight", spec := "boundsTight", unfollowed := true, recurses := true, apart := false, narrowed := true }
def BoundsTightUptoSaid : Prop := boundsTightUptoRow.holds Try.pinned (OpenSpec.upto boundsTightSpec)

/-- 'civiltimelaw45.BoundsTriangle', WHERE WHAT IT READS IS OF BULK AT MOST 1048576: true; the input reads as it did. -/
def boundsTriangleUptoRow : OpenClaim := { program := "ytegmjohhgedakaa", sum := "8f590bea6a2a39d560d14eee5db682ef685a6d68935a1a0eafb5bf08fec64caf", func := "civiltime/civiltimelaw45.BoundsTriangle", spec := "boundsTriangle", unfollowed := true, recurses := true, apart := false, narrowed := true }
def BoundsTriangleUptoSaid : Prop := boundsTriangleUptoRow.holds Try.pinned (OpenSpec.upto boundsTriangleSpec)

/-- 'civiltimelaw45.BoundsSchedules', WHERE WHAT IT READS IS OF BULK AT MOST 1048576: true; the input reads as it did. -/
def boundsSchedulesUptoRow : OpenClaim := { program := "ytegmjohhgedakaa", sum := "8f590bea6a2a39d560d14eee5db682ef685a6d68935a1a0eafb5bf08fec64caf", func := "civiltime/civiltimelaw45.BoundsSchedules", spec := "boundsSchedules", unfollowed := true, recurses := true, apart := false, narrowed := true }
def BoundsSchedulesUptoSaid : Prop := boundsSchedulesUptoRow.holds Try.pinned (OpenSpec.upto boundsSchedulesSpec)

/-- 'civiltimelaw45.BoundsAdds', WHERE WHAT IT READS IS OF BULK AT MOST 1048576: true; the input reads as it did. -/
def boundsAddsUptoRow : OpenClaim := { program := "ytegmjohhgedakaa", sum := "8f590bea6a2a39d560d14eee5db682ef685a6d68935a1a0eafb5bf08fec64caf", func := "civiltime/civiltimelaw45.BoundsAdds", spec := "boundsAdds", unfollowed := true, recurses := true, apart := false, narrowed := true }
def BoundsAddsUptoSaid : Prop := boundsAddsUptoRow.holds Try.pinned (OpenSpec.upto boundsAddsSpec)

/-- 'civiltimelaw45.BoundsKeeps', WHERE WHAT IT READS IS OF BULK AT MOST 1048576: true; the input reads as it did. -/
def boundsKeepsUptoRow : OpenClaim := { program := "ytegmjohhgedakaa", sum := "8f590bea6a2a39d560d14eee5db682ef685a6d68935a1a0eafb5bf08fec64caf", func := "civiltime/civiltimelaw45.BoundsKeeps", spec := "boundsKeeps", unfollowed := true, recurses := true, apart := false, narrowed := true }
def BoundsKeepsUptoSaid : Prop := boundsKeepsUptoRow.holds Try.pinned (OpenSpec.upto boundsKeepsSpec)

/-- 'civiltimelaw45.BoundsMinimal', WHERE WHAT IT READS IS OF BULK AT MOST 1048576: true; the input reads as it did. -/
def boundsMinimalUptoRow : OpenClaim := { program := "ytegmjohhgedakaa", sum := "8f590bea6a2a39d560d14eee5db682ef685a6d68935a1a0eafb5bf08fec64caf", func := "civiltime/civiltimelaw45.BoundsMinimal", spec := "boundsMinimal", unfollowed := true, recurses := true, apart := false, narrowed := true }
def BoundsMinimalUptoSaid : Prop := boundsMinimalUptoRow.holds Try.pinned (OpenSpec.upto boundsMinimalSpec)

end Rows
end Go.Proofs.Ytegmjohhgedakaa
