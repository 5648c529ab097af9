/-
  NARROWER THAN 'FOR EVERY INPUT', by the rows' own cells (each row's printed sentence says how): FlowReaches: loops · FlowClosed: loops · FlowMore: loops · FlowUnion: loops · RegionsHold: loops · RegionsLeast: loops · RegionsMeet: loops · RegionsOne: loops · RegionsMake: loops · RegionsRight: loops.
  DERIVED. THE GIVEN ROWS OF THIS SEAT. 10 by the template 'for every input the law returns true; each argument reads behind the call as it read before'; 0 by the template 'total and deterministic' (their statements: YtnnhlnefhndpdaaTotals.lean).
  GIVEN WITH THE SEED: the statements are not yours to turn. If you find one false, say at which input.
  Laid BY PROGRAM, IN A SANDBOX (cutbox-rows.mjs): the forced cells as the released guide's own fill.sh prints them over the translation ef4c334e6db516f3… (all of the seat's roots in one cut). By AI agents, Wed Nov 11 2026. No macro, syntax, notation, axiom, sorry.
-/
import Derived.Test.YtnnhlnefhndpdaaChecked
import GoSem.Claim
import GoSem.ClaimJoined
import GoSem.ClaimMapViews
import Derived.JoinedTies
import Derived.KernelRfl
namespace Go.Proofs.Ytnnhlnefhndpdaa
/- THE CELL 'sum', in the pinned program and in every row, IS THE sha256 OF THE DUMP (.gsa) THAT YtnnhlnefhndpdaaProg.lean LOADS. Nothing in Lean hashes anything: it is a label: what it is worth is what the hold of that sum in a sandbox is worth. -/
noncomputable def Try.pinned : Pinned := { name := "ytnnhlnefhndpdaa", sum := "ef4c334e6db516f333ada97404f39c9a2c299e37900cba0864c53b306e2c8246", checked := Try.checked }
namespace Rows
def none {H : Type} : Left H := { results := [], args := [] }

/-- 'palisadelaw15.FlowReaches': WHATEVER THE INPUT: true; the input reads as it did. -/
def flowReachesSpec : ChangeSpec := { name := "flowReaches", fn := fun _ => fun
  | [d1, d2] => { results := [.lit (.bool true)], args := [d1, d2] }
  | _ => none }
def flowReachesRow : OpenClaim := { program := "ytnnhlnefhndpdaa", sum := "ef4c334e6db516f333ada97404f39c9a2c299e37900cba0864c53b306e2c8246", func := "palisade/palisadelaw15.FlowReaches", spec := "flowReaches", unfollowed := true, recurses := true, loops := true, apart := false }
def FlowReachesSaid : Prop := flowReachesRow.holds Try.pinned (OpenSpec.ofChange flowReachesSpec)

/-- ITS FALSE NEIGHBOUR: 'it returns false'. Refute it at one input. -/
def flowReachesWrong : ChangeSpec := { name := "flowReaches", fn := fun _ => fun
  | [d1, d2] => { results := [.lit (.bool false)], args := [d1, d2] }
  | _ => none }
def FlowReachesWrongFalsely : Prop := flowReachesRow.holds Try.pinned (OpenSpec.ofChange flowReachesWrong)

/-- 'palisadelaw15.FlowClosed': WHATEVER THE INPUT: true; the input reads as it did. -/
def flowClosedSpec : ChangeSpec := { name := "flowClosed", fn := fun _ => fun
  | [d1, d2] => { results := [.lit (.bool true)], args := [d1, d2] }
  | _ => none }
def flowClosedRow : OpenClaim := { program := "ytnnhlnefhndpdaa", sum := "ef4c334e6db516f333ada97404f39c9a2c299e37900cba0864c53b306e2c8246", func := "palisade/palisadelaw15.FlowClosed", spec := "flowClosed", unfollowed := true, recurses := true, loops := true, apart := false }
def FlowClosedSaid : Prop := flowClosedRow.holds Try.pinned (OpenSpec.ofChange flowClosedSpec)

/-- ITS FALSE NEIGHBOUR: 'it returns false'. Refute it at one input. -/
def flowClosedWrong : ChangeSpec := { name := "flowClosed", fn := fun _ => fun
  | [d1, d2] => { results := [.lit (.bool false)], args := [d1, d2] }
  | _ => none }
def FlowClosedWrongFalsely : Prop := flowClosedRow.holds Try.pinned (OpenSpec.ofChange flowClosedWrong)

/-- 'palisadelaw15.FlowMore': WHATEVER THE INPUT: true; the input reads as it did. -/
def flowMoreSpec : ChangeSpec := { name := "flowMore", fn := fun _ => fun
  | [d1, d2, d3] => { results := [.lit (.bool true)], args := [d1, d2, d3] }
  | _ => none }
def flowMoreRow : OpenClaim := { program := "ytnnhlnefhndpdaa", sum := "ef4c334e6db516f333ada97404f39c9a2c299e37900cba0864c53b306e2c8246", func := "palisade/palisadelaw15.FlowMore", spec := "flowMore", unfollowed := true, recurses := true, loops := true, apart := false }
def FlowMoreSaid : Prop := flowMoreRow.holds Try.pinned (OpenSpec.ofChange flowMoreSpec)

/-- ITS FALSE NEIGHBOUR: 'it returns false'. Refute it at one input. -/
def flowMoreWrong : ChangeSpec := { name := "flowMore", fn := fun _ => fun
  | [d1, d2, d3] => { results := [.lit (.bool false)], args := [d1, d2, d3] }
  | _ => none }
def FlowMoreWrongFalsely : Prop := flowMoreRow.holds Try.pinned (OpenSpec.ofChange flowMoreWrong)

/-- 'palisadelaw15.FlowUnion': WHATEVER THE INPUT: true; the input reads as it did. -/
def flowUnionSpec : ChangeSpec := { name := "flowUnion", fn := fun _ => fun
  | [d1, d2, d3] => { results := [.lit (.bool true)], args := [d1, d2, d3] }
  | _ => none }
def flowUnionRow : OpenClaim := { program := "ytnnhlnefhndpdaa", sum := "ef4c334e6db516f333ada97404f39c9a2c299e37900cba0864c53b306e2c8246", func := "palisade/palisadelaw15.FlowUnion", spec := "flowUnion", unfollowed := true, recurses := true, loops := true, apart := false }
def FlowUnionSaid : Prop := flowUnionRow.holds Try.pinned (OpenSpec.ofChange flowUnionSpec)

/-- ITS FALSE NEIGHBOUR: 'it returns false'. Refute it at one input. -/
def flowUnionWrong : ChangeSpec := { name := "flowUnion", fn := fun _ => fun
  | [d1, d2, d3] => { results := [.lit (.bool false)], args := [d1, d2, d3] }
  | _ => none }
def FlowUnionWrongFalsely : Prop := flowUnionRow.holds Try.pinned (OpenSpec.ofChange flowUnionWrong)

/-- 'palisadelaw16.RegionsHold': WHATEVER THE INPUT: true; the input reads as it did. -/
def regionsHoldSpec : ChangeSpec := { name := "regionsHold", fn := fun _ => fun
  | [d1, d2, d3] => { results := [.lit (.bool true)], args := [d1, d2, d3] }
  | _ => none }
def regionsHoldRow : OpenClaim := { program := "ytnnhlnefhndpdaa", sum := "ef4c334e6db516f333ada97404f39c9a2c299e37900cba0864c53b306e2c8246", func := "palisade/palisadelaw16.RegionsHold", spec := "regionsHold", unfollowed := true, recurses := true, loops := true, apart := false }
def RegionsHoldSaid : Prop := regionsHoldRow.holds Try.pinned (OpenSpec.ofChange regionsHoldSpec)

/-- ITS FALSE NEIGHBOUR: 'it returns false'. Refute it at one input. -/
def regionsHoldWrong : ChangeSpec := { name := "regionsHold", fn := fun _ => fun
  | [d1, d2, d3] => { results := [.lit (.bool false)], args := [d1, d2, d3] }
  | _ => none }
def RegionsHoldWrongFalsely : Prop := regionsHoldRow.holds Try.pinned (OpenSpec.ofChange regionsHoldWrong)

/-- 'palisadelaw16.RegionsLeast': WHATEVER THE INPUT: true; the input reads as it did. -/
def regionsLeastSpec : ChangeSpec := { name := "regionsLeast", fn := fun _ => fun
  | [d1, d2, d3] => { results := [.lit (.bool true)], args := [d1, d2, d3] }
  | _ => none }
def regionsLeastRow : OpenClaim := { program := "ytnnhlnefhndpdaa", sum := "ef4c334e6db516f333ada97404f39c9a2c299e37900cba0864c53b306e2c8246", func := "palisade/palisadelaw16.RegionsLeast", spec := "regionsLeast", unfollowed := true, recurses := true, loops := true, apart := false }
def RegionsLeastSaid : Prop := regionsLeastRow.holds Try.pinned (OpenSpec.ofChange regionsLeastSpec)

/-- ITS FALSE NEIGHBOUR: 'it returns false'. Refute it at one input. -/
def regionsLeastWrong : ChangeSpec := { name := "regionsLeast", fn := fun _ => fun
  | [d1, d2, d3] => { results := [.lit (.bool false)], args := [d1, d2, d3] }
  | _ => none }
def RegionsLeastWrongFalsely : Prop := regionsLeastRow.holds Try.pinned (OpenSpec.ofChange regionsLeastWrong)

/-- 'palisadelaw16.RegionsMeet': WHATEVER THE INPUT: true; the input reads as it did. -/
def regionsMeetSpec : ChangeSpec := { name := "regionsMeet", fn := fun _ => fun
  | [d1, d2, d3] => { results := [.lit (.bool true)], args := [d1, d2, d3] }
  | _ => none }
def regionsMeetRow : OpenClaim := { program := "ytnnhlnefhndpdaa", sum := "ef4c334e6db516f333ada97404f39c9a2c299e37900cba0864c53b306e2c8246", func := "palisade/palisadelaw16.RegionsMeet", spec := "regionsMeet", unfollowed := true, recurses := true, loops := true, apart := false }
def RegionsMeetSaid : Prop := regionsMeetRow.holds Try.pinned (OpenSpec.ofChange regionsMeetSpec)

/-- ITS FALSE NEIGHBOUR: 'it returns false'. Refute it at one input. -/
def regionsMeetWrong : ChangeSpec := { name := "regionsMeet", fn := fun _ => fun
  | [d1, d2, d3] => { results := [.lit (.bool false)], args := [d1, d2, d3] }
  | _ => none }
def RegionsMeetWrongFalsely : Prop := regionsMeetRow.holds Try.pinned (OpenSpec.ofChange regionsMeetWrong)

/-- 'palisadelaw16.RegionsOne': WHATEVER THE INPUT: true; the input reads as it did. -/
def regionsOneSpec : ChangeSpec := { name := "regionsOne", fn := fun _ => fun
  | [d1, d2] => { results := [.lit (.bool true)], args := [d1, d2] }
  | _ => none }
def regionsOneRow : OpenClaim := { program := "ytnnhlnefhndpdaa", sum := "ef4c334e6db516f333ada97404f39c9a2c299e37900cba0864c53b306e2c8246", func := "palisade/palisadelaw16.RegionsOne", spec := "regionsOne", unfollowed := true, recurses := true, loops := true, apart := false }
def RegionsOneSaid : Prop := regionsOneRow.holds Try.pinned (OpenSpec.ofChange regionsOneSpec)

/-- ITS FALSE NEIGHBOUR: 'it returns false'. Refute it at one input. -/
def regionsOneWrong : ChangeSpec := { name := "regionsOne", fn := fun _ => fun
  | [d1, d2] => { results := [.lit (.bool false)], args := [d1, d2] }
  | _ => none }
def RegionsOneWrongFalsely : Prop := regionsOneRow.holds Try.pinned (OpenSpec.ofChange regionsOneWrong)

/-- 'palisadelaw16.RegionsMake': WHATEVER THE INPUT: true; the input reads as it did. -/
def regionsMakeSpec : ChangeSpec := { name := "regionsMake", fn := fun _ => fun
  | [d1, d2] => { results := [.lit (.bool true)], args := [d1, d2] }
  | _ => none }
def regionsMakeRow : OpenClaim := { program := "ytnnhlnefhndpdaa", sum := "ef4c334e6db516f333ada97404f39c9a2c299e37900cba0864c53b306e2c8246", func := "palisade/palisadelaw16.RegionsMake", spec := "regionsMake", unfollowed := true, recurses := true, loops := true, apart := false }
def RegionsMakeSaid : Prop := regionsMakeRow.holds Try.pinned (OpenSpec.ofChange regionsMakeSpec)

/-- ITS FALSE NEIGHBOUR: 'it returns false'. Refute it at one input. -/
def regionsMakeWrong : ChangeSpec := { name := "regionsMake", fn := fun _ => fun
  | [d1, d2] => { results := [.lit (.bool false)], args := [d1, d2] }
  | _ => none }
def RegionsMakeWrongFalsely : Prop := regionsMakeRow.holds Try.pinned (OpenSpec.ofChange regionsMakeWrong)

/-- 'palisadelaw16.RegionsRight': WHATEVER THE INPUT: true; the input reads as it did. -/
def regionsRightSpec : ChangeSpec := { name := "regionsRight", fn := fun _ => fun
  | [d1, d2] => { results := [.lit (.bool true)], args := [d1, d2] }
  | _ => none }
def regionsRightRow : OpenClaim := { program := "ytnnhlnefhndpdaa", sum := "ef4c334e6db516f333ada97404f39c9a2c299e37900cba0864c53b306e2c8246", func := "palisade/palisadelaw16.RegionsRight", spec := "regionsRight", unfollowed := true, recurses := true, loops := true, apart := false }
def RegionsRightSaid : Prop := regionsRightRow.holds Try.pinned (OpenSpec.ofChange regionsRightSpec)

/-- ITS FALSE NEIGHBOUR: 'it returns false'. Refute it at one input. -/
def regionsRightWrong : ChangeSpec := { name := "regionsRight", fn := fun _ => fun
  | [d1, d2] => { results := [.lit (.bool false)], args := [d1, d2] }
  | _ => none }
def RegionsRightWrongFalsely : Prop := regionsRightRow.holds Try.pinned (OpenSpec.ofChange regionsRightWrong)

/- THE SECOND FORM. 'bulk': how many values and letters a reading holds, each counted each time it is reached (what is shared counts as often as it is met; a slice's spare places count too). A statement '..UptoSaid' is the law's where the arguments, and the package variables that the reading takes, are together of bulk at most 1048576: NARROWER than '..Said'. Prove '..Said' where nothing that the law and all that it calls make is longer than what came in: it says more and counts as full. Else prove '..UptoSaid'. A law counts once. -/
mutual
def uptoBulk {H : Type} : DataW H → Nat
  | .lit (.string bytes) => bytes.length + 1
  | .lit _ => 1
  | .nil => 1
  | .ptr d => uptoBulk d + 1
  | .slice elems spare => uptoBulkAll elems + uptoBulkAll spare + 1
  | .agg parts => uptoBulkAll parts + 1
  | .iface _ d => uptoBulk d + 1
  | .map entries => uptoBulkEntries entries + 1
  | .held _ => 1
def uptoBulkAll {H : Type} : List (DataW H) → Nat
  | [] => 0
  | d :: r => uptoBulk d + uptoBulkAll r
def uptoBulkEntries {H : Type} : List (Lit × DataW H) → Nat
  | [] => 0
  | x :: r => uptoBulkEntry x + uptoBulkEntries r
def uptoBulkEntry {H : Type} : Lit × DataW H → Nat
  | (.string bytes, d) => bytes.length + uptoBulk d + 1
  | (_, d) => uptoBulk d + 1
 end
def uptoSmall : (H : Type) → List (DataW H) → Bool := fun _ ds => decide (uptoBulkAll ds ≤ 1048576)
def OpenSpec.upto (s : _root_.Go.ChangeSpec) : _root_.Go.OpenSpec := { _root_.Go.OpenSpec.ofChange s with cond := some uptoSmall }

/-- 'palisadelaw15.FlowReaches', WHERE WHAT IT READS IS OF BULK AT MOST 1048576: true; the input reads as it did. -/
def flowReachesUptoRow : OpenClaim := { program := "ytnnhlnefhndpdaa", sum := "ef4c334e6db516f333ada97404f39c9a2c299e37900cba0864c53b306e2c8246", func := "palisade/palisadelaw15.FlowReaches", spec := "flowReaches", unfollowed := true, recurses := true, loops := true, apart := false, narrowed := true }
def FlowReachesUptoSaid : Prop := flowReachesUptoRow.holds Try.pinned (OpenSpec.upto flowReachesSpec)

/-- 'palisadelaw15.FlowClosed', WHERE WHAT IT READS IS OF BULK AT MOST 1048576: true; the input reads as it did. -/
def flowClosedUptoRow : OpenClaim := { program := "ytnnhlnefhndpdaa", sum := "ef4c334e6db516f333ada97404f39c9a2c299e37900cba0864c53b306e2c8246", func := "palisade/palisadelaw15.FlowClosed", spec := "flowClosed", unfollowed := true, recurses := true, loops := true, apart := false, narrowed := true }
def FlowClosedUptoSaid : Prop := flowClosedUptoRow.holds Try.pinned (OpenSpec.upto flowClosedSpec)

/-- 'palisadelaw15.FlowMore', WHERE WHAT IT READS IS OF BULK AT MOST 1048576: true; the input reads as it did. -/
def flowMoreUptoRow : OpenClaim := { program := "ytnnhlnefhndpdaa", sum := "ef4c334e6db516f333ada97404f39c9a2c299e37900cba0864c53b306e2c8246", func := "palisade/palisadelaw15.FlowMore", spec := "flowMore", unfollowed := true, recurses := true, loops := true, apart := false, narrowed := true }
def FlowMoreUptoSaid : Prop := flowMoreUptoRow.holds Try.pinned (OpenSpec.upto flowMoreSpec)

/-- 'palisadelaw15.FlowUnion', WHERE WHAT IT READS IS OF BULK AT MOST 1048576: true; the input reads as it did. -/
def flowUnionUptoRow : OpenClaim := { program := "ytnnhlnefhndpdaa", sum := "ef4c334e6db516f333ada97404f39c9a2c299e37900cba0864c53b306e2c8246", func := "palisade/palisadelaw15.FlowUnion", spec := "flowUnion", unfollowed := true, recurses := true, loops := true, apart := false, narrowed := true }
def FlowUnionUptoSaid : Prop := flowUnionUptoRow.holds Try.pinned (OpenSpec.upto flowUnionSpec)

/-- 'palisadelaw16.RegionsHold', WHERE WHAT IT READS IS OF BULK AT MOST 1048576: true; the input reads as it did. -/
def regionsHoldUptoRow : OpenClaim := { program := "ytnnhlnefhndpdaa", sum := "ef4c334e6db516f333ada97404f39c9a2c299e37900cba0864c53b306e2c8246", func := "palisade/palisadelaw16.RegionsHold", spec := "regionsHold", unfollowed := true, recurses := true, loops := true, apart := false, narrowed := true }
def RegionsHoldUptoSaid : Prop := regionsHoldUptoRow.holds Try.pinned (OpenSpec.upto regionsHoldSpec)

/-- 'palisadelaw16.RegionsLeast', WHERE WHAT IT READS IS OF BULK AT MOST 1048576: true; the input reads as it did. -/
def regionsLeastUptoRow : OpenClaim := { program := "ytnnhlnefhndpdaa", sum := "ef4c334e6db516f333ada97404f39c9a2c299e37900cba0864c53b306e2c8246", func := "palisade/palisadelaw16.RegionsLeast", spec := "regionsLeast", unfollowed := true, recurses := true, loops := true, apart := false, narrowed := true }
def RegionsLeastUptoSaid : Prop := regionsLeastUptoRow.holds Try.pinned (OpenSpec.upto regionsLeastSpec)

/-- 'palisadelaw16.RegionsMeet', WHERE WHAT IT READS IS OF BULK AT MOST 1048576: true; the input reads as it did. -/
def regionsMeetUptoRow : OpenClaim := { program := "ytnnhlnefhndpdaa", sum := "ef4c334e6db516f333ada97404f39c9a2c299e37900cba0864c53b306e2c8246", func := "palisade/palisadelaw16.RegionsMeet", spec := "regionsMeet", unfollowed := true, recurses := true, loops := true, apart := false, narrowed := true }
def RegionsMeetUptoSaid : Prop := regionsMeetUptoRow.holds Try.pinned (OpenSpec.upto regionsMeetSpec)

/-- 'palisadelaw16.RegionsOne', WHERE WHAT IT READS IS OF BULK AT MOST 1048576: true; the input reads as it did. -/
def regionsOneUptoRow : OpenClaim := { program := "ytnnhlnefhndpdaa", sum := "ef4c334e6db516f333ada97404f39c9a2c299e37900cba0864c53b306e2c8246", func := "palisade/palisadelaw16.RegionsOne", spec := "regionsOne", unfollowed := true, recurses := true, loops := true, apart := false, narrowed := true }
def RegionsOneUptoSaid : Prop := regionsOneUptoRow.holds Try.pinned (OpenSpec.upto regionsOneSpec)

/-- 'palisadelaw16.RegionsMake', WHERE WHAT IT READS IS OF BULK AT MOST 1048576: true; the input reads as it did. -/
def regionsMakeUptoRow : OpenClaim := { program := "ytnnhlnefhndpdaa", sum := "ef4c334e6db516f333ada97404f39c9a2c299e37900cba0864c53b306e2c8246", func := "palisade/palisadelaw16.RegionsMake", spec := "regionsMake", unfollowed := true, recurses := true, loops := true, apart := false, narrowed := true }
def RegionsMakeUptoSaid : Prop := regionsMakeUptoRow.holds Try.pinned (OpenSpec.upto regionsMakeSpec)

/-- 'palisadelaw16.RegionsRight', WHERE WHAT IT READS IS OF BULK AT MOST 1048576: true; the input reads as it did. -/
def regionsRightUptoRow : OpenClaim := { program := "ytnnhlnefhndpdaa", sum := "ef4c334e6db516f333ada97404f39c9a2c299e37900cba0864c53b306e2c8246", func := "palisade/palisadelaw16.RegionsRight", spec := "regionsRight", unfollowed := true, recurses := true, loops := true, apart := false, narrowed := true }
def RegionsRightUptoSaid : Prop := regionsRightUptoRow.holds Try.pinned (OpenSpec.upto regionsRightSpec)

end Rows
end Go.Proofs.Ytnnhlnefhndpdaa
