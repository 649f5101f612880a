/-
  No cell of these rows narrows 'for every input' (looked for: loops, veiled, ifaces, maps, wideKeys, modest, calm, conditions, laid).
  DERIVED. THE GIVEN ROWS OF THIS SEAT. 6 by the template 'for every input the law returns true; each argument reads behind the call as it read before'; 0 by the template 'total and deterministic' (their statements: YthoejimgdhfmiaaTotals.lean).
  GIVEN WITH THE SEED: the statements are not yours to turn. If you find one false, say at which input.
  Laid BY PROGRAM, IN A SANDBOX (cutbox-rows.mjs): the forced cells as the released guide's own fill.sh prints them over the translation f53b52ab0e02c113… (all of the seat's roots in one cut). By AI agents, Wed Nov 11 2026. No macro, syntax, notation, axiom, sorry.
-/
import Derived.Test.YthoejimgdhfmiaaChecked
import GoSem.Claim
import GoSem.ClaimJoined
import GoSem.ClaimMapViews
import Derived.JoinedTies
import Derived.KernelRfl
namespace Go.Proofs.Ythoejimgdhfmiaa
/- THE CELL 'sum', in the pinned program and in every row, IS THE sha256 OF THE DUMP (.gsa) THAT YthoejimgdhfmiaaProg.lean LOADS. Nothing in Lean hashes anything: it is a label: what it is worth is what the hold of that sum in a sandbox is worth. -/
noncomputable def Try.pinned : Pinned := { name := "ythoejimgdhfmiaa", sum := "f53b52ab0e02c113c405b23d35395358cd4128a1ece413d63f01887b19f47997", checked := Try.checked }
namespace Rows
def none {H : Type} : Left H := { results := [], args := [] }

/-- 'rondeaulaw11.CheckTells': WHATEVER THE INPUT: true; the input reads as it did. -/
def checkTellsSpec : ChangeSpec := { name := "checkTells", fn := fun _ => fun
  | [d] => { results := [.lit (.bool true)], args := [d] }
  | _ => none }
def checkTellsRow : OpenClaim := { program := "ythoejimgdhfmiaa", sum := "f53b52ab0e02c113c405b23d35395358cd4128a1ece413d63f01887b19f47997", func := "rondeau/rondeaulaw11.CheckTells", spec := "checkTells", recurses := true, apart := false }
def CheckTellsSaid : Prop := checkTellsRow.holds Try.pinned (OpenSpec.ofChange checkTellsSpec)

/-- ITS FALSE NEIGHBOUR: 'it returns false'. Refute it at one input. -/
def checkTellsWrong : ChangeSpec := { name := "checkTells", fn := fun _ => fun
  | [d] => { results := [.lit (.bool false)], args := [d] }
  | _ => none }
def CheckTellsWrongFalsely : Prop := checkTellsRow.holds Try.pinned (OpenSpec.ofChange checkTellsWrong)

/-- 'rondeaulaw11.CheckReach': WHATEVER THE INPUT: true; the input reads as it did. -/
def checkReachSpec : ChangeSpec := { name := "checkReach", fn := fun _ => fun
  | [d1, d2] => { results := [.lit (.bool true)], args := [d1, d2] }
  | _ => none }
def checkReachRow : OpenClaim := { program := "ythoejimgdhfmiaa", sum := "f53b52ab0e02c113c405b23d35395358cd4128a1ece413d63f01887b19f47997", func := "rondeau/rondeaulaw11.CheckReach", spec := "checkReach", recurses := true, apart := false }
def CheckReachSaid : Prop := checkReachRow.holds Try.pinned (OpenSpec.ofChange checkReachSpec)

/-- ITS FALSE NEIGHBOUR: 'it returns false'. Refute it at one input. -/
def checkReachWrong : ChangeSpec := { name := "checkReach", fn := fun _ => fun
  | [d1, d2] => { results := [.lit (.bool false)], args := [d1, d2] }
  | _ => none }
def CheckReachWrongFalsely : Prop := checkReachRow.holds Try.pinned (OpenSpec.ofChange checkReachWrong)

/-- 'rondeaulaw11.CheckClosed': WHATEVER THE INPUT: true; the input reads as it did. -/
def checkClosedSpec : ChangeSpec := { name := "checkClosed", fn := fun _ => fun
  | [d1, d2] => { results := [.lit (.bool true)], args := [d1, d2] }
  | _ => none }
def checkClosedRow : OpenClaim := { program := "ythoejimgdhfmiaa", sum := "f53b52ab0e02c113c405b23d35395358cd4128a1ece413d63f01887b19f47997", func := "rondeau/rondeaulaw11.CheckClosed", spec := "checkClosed", recurses := true, apart := false }
def CheckClosedSaid : Prop := checkClosedRow.holds Try.pinned (OpenSpec.ofChange checkClosedSpec)

/-- ITS FALSE NEIGHBOUR: 'it returns false'. Refute it at one input. -/
def checkClosedWrong : ChangeSpec := { name := "checkClosed", fn := fun _ => fun
  | [d1, d2] => { results := [.lit (.bool false)], args := [d1, d2] }
  | _ => none }
def CheckClosedWrongFalsely : Prop := checkClosedRow.holds Try.pinned (OpenSpec.ofChange checkClosedWrong)

/-- 'rondeaulaw11.CheckTouches': WHATEVER THE INPUT: true; the input reads as it did. -/
def checkTouchesSpec : ChangeSpec := { name := "checkTouches", fn := fun _ => fun
  | [d1, d2] => { results := [.lit (.bool true)], args := [d1, d2] }
  | _ => none }
def checkTouchesRow : OpenClaim := { program := "ythoejimgdhfmiaa", sum := "f53b52ab0e02c113c405b23d35395358cd4128a1ece413d63f01887b19f47997", func := "rondeau/rondeaulaw11.CheckTouches", spec := "checkTouches", recurses := true, apart := false }
def CheckTouchesSaid : Prop := checkTouchesRow.holds Try.pinned (OpenSpec.ofChange checkTouchesSpec)

/-- ITS FALSE NEIGHBOUR: 'it returns false'. Refute it at one input. -/
def checkTouchesWrong : ChangeSpec := { name := "checkTouches", fn := fun _ => fun
  | [d1, d2] => { results := [.lit (.bool false)], args := [d1, d2] }
  | _ => none }
def CheckTouchesWrongFalsely : Prop := checkTouchesRow.holds Try.pinned (OpenSpec.ofChange checkTouchesWrong)

/-- 'rondeaulaw11.CheckMore': WHATEVER THE INPUT: true; the input reads as it did. -/
def checkMoreSpec : ChangeSpec := { name := "checkMore", fn := fun _ => fun
  | [d1, d2] => { results := [.lit (.bool true)], args := [d1, d2] }
  | _ => none }
def checkMoreRow : OpenClaim := { program := "ythoejimgdhfmiaa", sum := "f53b52ab0e02c113c405b23d35395358cd4128a1ece413d63f01887b19f47997", func := "rondeau/rondeaulaw11.CheckMore", spec := "checkMore", recurses := true, apart := false }
def CheckMoreSaid : Prop := checkMoreRow.holds Try.pinned (OpenSpec.ofChange checkMoreSpec)

/-- ITS FALSE NEIGHBOUR: 'it returns false'. Refute it at one input. -/
def checkMoreWrong : ChangeSpec := { name := "checkMore", fn := fun _ => fun
  | [d1, d2] => { results := [.lit (.bool false)], args := [d1, d2] }
  | _ => none }
def CheckMoreWrongFalsely : Prop := checkMoreRow.holds Try.pinned (OpenSpec.ofChange checkMoreWrong)

/-- 'rondeaulaw11.CheckStraight': WHATEVER THE INPUT: true; the input reads as it did. -/
def checkStraightSpec : ChangeSpec := { name := "checkStraight", fn := fun _ => fun
  | [d] => { results := [.lit (.bool true)], args := [d] }
  | _ => none }
def checkStraightRow : OpenClaim := { program := "ythoejimgdhfmiaa", sum := "f53b52ab0e02c113c405b23d35395358cd4128a1ece413d63f01887b19f47997", func := "rondeau/rondeaulaw11.CheckStraight", spec := "checkStraight", recurses := true, apart := false }
def CheckStraightSaid : Prop := checkStraightRow.holds Try.pinned (OpenSpec.ofChange checkStraightSpec)

/-- ITS FALSE NEIGHBOUR: 'it returns false'. Refute it at one input. -/
def checkStraightWrong : ChangeSpec := { name := "checkStraight", fn := fun _ => fun
  | [d] => { results := [.lit (.bool false)], args := [d] }
  | _ => none }
def CheckStraightWrongFalsely : Prop := checkStraightRow.holds Try.pinned (OpenSpec.ofChange checkStraightWrong)

/- THE SECOND FORM. 'bulk': how many values and letters a reading holds, each counted each time it is reached (what is shared counts as often as it is met; a slice's spare places count too). A statement '..UptoSaid' is the law's where the arguments, and the package variables that the reading takes, are together of bulk at most 1048576: NARROWER than '..Said'. Prove '..Said' where nothing that the law and all that it calls make is longer than what came in: it says more and counts as full. Else prove '..UptoSaid'. A law counts once. -/
mutual
def uptoBulk {H : Type} : DataW H → Nat
  | .lit (.string bytes) => bytes.length + 1
  | .lit _ => 1
  | .nil => 1
  | .ptr d => uptoBulk d + 1
  | .slice elems spare => uptoBulkAll elems + uptoBulkAll spare + 1
  | .agg parts => uptoBulkAll parts + 1
  | .iface _ d => uptoBulk d + 1
  | .map entries => uptoBulkEntries entries + 1
  | .held _ => 1
def uptoBulkAll {H : Type} : List (DataW H) → Nat
  | [] => 0
  | d :: r => uptoBulk d + uptoBulkAll r
def uptoBulkEntries {H : Type} : List (Lit × DataW H) → Nat
  | [] => 0
  | x :: r => uptoBulkEntry x + uptoBulkEntries r
def uptoBulkEntry {H : Type} : Lit × DataW H → Nat
  | (.string bytes, d) => bytes.length + uptoBulk d + 1
  | (_, d) => uptoBulk d + 1
 end
def uptoSmall : (H : Type) → List (DataW H) → Bool := fun _ ds => decide (uptoBulkAll ds ≤ 1048576)
def OpenSpec.upto (s : _root_.Go.ChangeSpec) : _root_.Go.OpenSpec := { _root_.Go.OpenSpec.ofChange s with cond := some uptoSmall }

/-- 'rondeaulaw11.CheckTells', WHERE WHAT IT READS IS OF BULK AT MOST 1048576: true; the input reads as it did. -/
def checkTellsUptoRow : OpenClaim := { program := "ythoejimgdhfmiaa", sum := "f53b52ab0e02c113c405b23d35395358cd4128a1ece413d63f01887b19f47997", func := "rondeau/rondeaulaw11.CheckTells", spec := "checkTells", recurses := true, apart := false, narrowed := true }
def CheckTellsUptoSaid : Prop := checkTellsUptoRow.holds Try.pinned (OpenSpec.upto checkTellsSpec)

/-- 'rondeaulaw11.CheckReach', WHERE WHAT IT READS IS OF BULK AT MOST 1048576: true; the input reads as it did. -/
def checkReachUptoRow : OpenClaim := { program := "ythoejimgdhfmiaa", sum := "f53b52ab0e02c113c405b23d35395358cd4128a1ece413d63f01887b19f47997", func := "rondeau/rondeaulaw11.CheckReach", spec := "checkReach", recurses := true, apart := false, narrowed := true }
def CheckReachUptoSaid : Prop := checkReachUptoRow.holds Try.pinned (OpenSpec.upto checkReachSpec)

/-- 'rondeaulaw11.CheckClosed', WHERE WHAT IT READS IS OF BULK AT MOST 1048576: true; the input reads as it did. -/
def checkClosedUptoRow : OpenClaim := { program := "ythoejimgdhfmiaa", sum := "f53b52ab0e02c113c405b23d35395358cd4128a1ece413d63f01887b19f47997", func := "rondeau/rondeaulaw11.CheckClosed", spec := "checkClosed", recurses := true, apart := false, narrowed := true }
def CheckClosedUptoSaid : Prop := checkClosedUptoRow.holds Try.pinned (OpenSpec.upto checkClosedSpec)

/-- 'rondeaulaw11.CheckTouches', WHERE WHAT IT READS IS OF BULK AT MOST 1048576: true; the input reads as it did. -/
def checkTouchesUptoRow : OpenClaim := { program := "ythoejimgdhfmiaa", sum := "f53b52ab0e02c113c405b23d35395358cd4128a1ece413d63f01887b19f47997", func := "rondeau/rondeaulaw11.CheckTouches", spec := "checkTouches", recurses := true, apart := false, narrowed := true }
def CheckTouchesUptoSaid : Prop := checkTouchesUptoRow.holds Try.pinned (OpenSpec.upto checkTouchesSpec)

/-- 'rondeaulaw11.CheckMore', WHERE WHAT IT READS IS OF BULK AT MOST 1048576: true; the input reads as it did. -/
def checkMoreUptoRow : OpenClaim := { program := "ythoejimgdhfmiaa", sum := "f53b52ab0e02c113c405b23d35395358cd4128a1ece413d63f01887b19f47997", func := "rondeau/rondeaulaw11.CheckMore", spec := "checkMore", recurses := true, apart := false, narrowed := true }
def CheckMoreUptoSaid : Prop := checkMoreUptoRow.holds Try.pinned (OpenSpec.upto checkMoreSpec)

/-- 'rondeaulaw11.CheckStraight', WHERE WHAT IT READS IS OF BULK AT MOST 1048576: true; the input reads as it did. -/
def checkStraightUptoRow : OpenClaim := { program := "ythoejimgdhfmiaa", sum := "f53b52ab0e02c113c405b23d35395358cd4128a1ece413d63f01887b19f47997", func := "rondeau/rondeaulaw11.CheckStraight", spec := "checkStraight", recurses := true, apart := false, narrowed := true }
def CheckStraightUptoSaid : Prop := checkStraightUptoRow.holds Try.pinned (OpenSpec.upto checkStraightSpec)

end Rows
end Go.Proofs.Ythoejimgdhfmiaa
