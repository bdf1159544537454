/-
  No cell of these rows narrows 'for every input' (looked for: loops, veiled, ifaces, maps, wideKeys, modest, calm, conditions, laid).
  DERIVED. THE GIVEN ROWS OF THIS SEAT. 3 by the template 'for every input the law returns true; each argument reads behind the call as it read before'; 0 by the template 'total and deterministic' (their statements: YtlpbdikmhngmfaaTotals.lean).
  GIVEN WITH THE SEED: the statements are not yours to turn. If you find one false, say at which input.
  Laid BY PROGRAM, IN A SANDBOX (cutbox-rows.mjs): the forced cells as the released guide's own fill.sh prints them over the translation cda50aeb276e9bb8… (all of the seat's roots in one cut). By AI agents, Wed Nov 11 2026. No macro, syntax, notation, axiom, sorry.
-/
import Derived.Test.YtlpbdikmhngmfaaChecked
import GoSem.Claim
import GoSem.ClaimJoined
import GoSem.ClaimMapViews
import Derived.JoinedTies
import Derived.KernelRfl
namespace Go.Proofs.Ytlpbdikmhngmfaa
/- THE CELL 'sum', in the pinned program and in every row, IS THE sha256 OF THE DUMP (.gsa) THAT YtlpbdikmhngmfaaProg.lean LOADS. Nothing in Lean hashes anything: it is a label: what it is worth is what the hold of that sum in a sandbox is worth. -/
noncomputable def Try.pinned : Pinned := { name := "ytlpbdikmhngmfaa", sum := "cda50aeb276e9bb88c668985d3680f882f7f57e3803d773b3dda7ed7de6b9208", checked := Try.checked }
namespace Rows
def none {H : Type} : Left H := { results := [], args := [] }

/-- 'civiltimelaw13.PeriodicRepeats': WHATEVER THE INPUT: true; the input reads as it did. -/
def periodicRepeatsSpec : ChangeSpec := { name := "periodicRepeats", fn := fun _ => fun
  | [d1, d2, d3] => { results := [.lit (.bool true)], args := [d1, d2, d3] }
  | _ => none }
def periodicRepeatsRow : OpenClaim := { program := "ytlpbdikmhngmfaa", sum := "cda50aeb276e9bb88c668985d3680f882f7f57e3803d773b3dda7ed7de6b9208", func := "civiltime/civiltimelaw13.PeriodicRepeats", spec := "periodicRepeats", unfollowed := true, recurses := true, apart := false }
def PeriodicRepeatsSaid : Prop := periodicRepeatsRow.holds Try.pinned (OpenSpec.ofChange periodicRepeatsSpec)

/-- ITS FALSE NEIGHBOUR: 'it returns false'. Refute it at one input. -/
def periodicRepeatsWrong : ChangeSpec := { name := "periodicRepeats", fn := fun _ => fun
  | [d1, d2, d3] => { results := [.lit (.bool false)], args := [d1, d2, d3] }
  | _ => none }
def PeriodicRepeatsWrongFalsely : Prop := periodicRepeatsRow.holds Try.pinned (OpenSpec.ofChange periodicRepeatsWrong)

/-- 'civiltimelaw13.PeriodicCombines': WHATEVER THE INPUT: true; the input reads as it did. -/
def periodicCombinesSpec : ChangeSpec := { name := "periodicCombines", fn := fun _ => fun
  | [d1, d2, d3] => { results := [.lit (.bool true)], args := [d1, d2, d3] }
  | _ => none }
def periodicCombinesRow : OpenClaim := { program := "ytlpbdikmhngmfaa", sum := "cda50aeb276e9bb88c668985d3680f882f7f57e3803d773b3dda7ed7de6b9208", func := "civiltime/civiltimelaw13.PeriodicCombines", spec := "periodicCombines", unfollowed := true, recurses := true, apart := false }
def PeriodicCombinesSaid : Prop := periodicCombinesRow.holds Try.pinned (OpenSpec.ofChange periodicCombinesSpec)

/-- ITS FALSE NEIGHBOUR: 'it returns false'. Refute it at one input. -/
def periodicCombinesWrong : ChangeSpec := { name := "periodicCombines", fn := fun _ => fun
  | [d1, d2, d3] => { results := [.lit (.bool false)], args := [d1, d2, d3] }
  | _ => none }
def PeriodicCombinesWrongFalsely : Prop := periodicCombinesRow.holds Try.pinned (OpenSpec.ofChange periodicCombinesWrong)

/-- 'civiltimelaw15.GranulePoints': WHATEVER THE INPUT: true; the input reads as it did. -/
def granulePointsSpec : ChangeSpec := { name := "granulePoints", fn := fun _ => fun
  | [d1, d2] => { results := [.lit (.bool true)], args := [d1, d2] }
  | _ => none }
def granulePointsRow : OpenClaim := { program := "ytlpbdikmhngmfaa", sum := "cda50aeb276e9bb88c668985d3680f882f7f57e3803d773b3dda7ed7de6b9208", func := "civiltime/civiltimelaw15.GranulePoints", spec := "granulePoints", unfollowed := true, recurses := true, apart := false }
def GranulePointsSaid : Prop := granulePointsRow.holds Try.pinned (OpenSpec.ofChange granulePointsSpec)

/-- ITS FALSE NEIGHBOUR: 'it returns false'. Refute it at one input. -/
def granulePointsWrong : ChangeSpec := { name := "granulePoints", fn := fun _ => fun
  | [d1, d2] => { results := [.lit (.bool false)], args := [d1, d2] }
  | _ => none }
def GranulePointsWrongFalsely : Prop := granulePointsRow.holds Try.pinned (OpenSpec.ofChange granulePointsWrong)

/- THE SECOND FORM. 'bulk': how many values and letters a reading holds, each counted each time it is reached (what is shared counts as often as it is met; a slice's spare places count too). A statement '..UptoSaid' is the law's where the arguments, and the package variables that the reading takes, are together of bulk at most 1048576: NARROWER than '..Said'. Prove '..Said' where nothing that the law and all that it calls make is longer than what came in: it says more and counts as full. Else prove '..UptoSaid'. A law counts once. -/
mutual
def uptoBulk {H : Type} : DataW H → Nat
  | .lit (.string bytes) => bytes.length + 1
  | .lit _ => 1
  | .nil => 1
  | .ptr d => uptoBulk d + 1
  | .slice elems spare => uptoBulkAll elems + uptoBulkAll spare + 1
  | .agg parts => uptoBulkAll parts + 1
  | .iface _ d => uptoBulk d + 1
  | .map entries => uptoBulkEntries entries + 1
  | .held _ => 1
def uptoBulkAll {H : Type} : List (DataW H) → Nat
  | [] => 0
  | d :: r => uptoBulk d + uptoBulkAll r
def uptoBulkEntries {H : Type} : List (Lit × DataW H) → Nat
  | [] => 0
  | x :: r => uptoBulkEntry x + uptoBulkEntries r
def uptoBulkEntry {H : Type} : Lit × DataW H → Nat
  | (.string bytes, d) => bytes.length + uptoBulk d + 1
  | (_, d) => uptoBulk d + 1
 end
def uptoSmall : (H : Type) → List (DataW H) → Bool := fun _ ds => decide (uptoBulkAll ds ≤ 1048576)
def OpenSpec.upto (s : _root_.Go.ChangeSpec) : _root_.Go.OpenSpec := { _root_.Go.OpenSpec.ofChange s with cond := some uptoSmall }

/-- 'civiltimelaw13.PeriodicRepeats', WHERE WHAT IT READS IS OF BULK AT MOST 1048576: true; the input reads as it did. -/
def periodicRepeatsUptoRow : OpenClaim := { program := "ytlpbdikmhngmfaa", sum := "cda50aeb276e9bb88c668985d3680f882f7f57e3803d773b3dda7ed7de6b9208", func := "civiltime/civiltimelaw13.PeriodicRepeats", spec := "periodicRepeats", unfollowed := true, recurses := true, apart := false, narrowed := true }
def PeriodicRepeatsUptoSaid : Prop := periodicRepeatsUptoRow.holds Try.pinned (OpenSpec.upto periodicRepeatsSpec)

/-- 'civiltimelaw13.PeriodicCombines', WHERE WHAT IT READS IS OF BULK AT MOST 1048576: true; the input reads as it did. -/
def periodicCombinesUptoRow : OpenClaim := { program := "ytlpbdikmhngmfaa", sum := "cda50aeb276e9bb88c668985d3680f882f7f57e3803d773b3dda7ed7de6b9208", func := "civiltime/civiltimelaw13.PeriodicCombines", spec := "periodicCombines", unfollowed := true, recurses := true, apart := false, narrowed := true }
def PeriodicCombinesUptoSaid : Prop := periodicCombinesUptoRow.holds Try.pinned (OpenSpec.upto periodicCombinesSpec)

/-- 'civiltimelaw15.GranulePoints', WHERE WHAT IT READS IS OF BULK AT MOST 1048576: true; the input reads as it did. -/
def granulePointsUptoRow : OpenClaim := { program := "ytlpbdikmhngmfaa", sum := "cda50aeb276e9bb88c668985d3680f882f7f57e3803d773b3dda7ed7de6b9208", func := "civiltime/civiltimelaw15.GranulePoints", spec := "granulePoints", unfollowed := true, recurses := true, apart := false, narrowed := true }
def GranulePointsUptoSaid : Prop := granulePointsUptoRow.holds Try.pinned (OpenSpec.upto granulePointsSpec)

end Rows
end Go.Proofs.Ytlpbdikmhngmfaa
