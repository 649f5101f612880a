/-
  No cell of these rows narrows 'for every input' (looked for: loops, veiled, ifaces, maps, wideKeys, modest, calm, conditions, laid).
  DERIVED. THE GIVEN ROWS OF THIS SEAT. 18 by the template 'for every input the law returns true; each argument reads behind the call as it read before'; 0 by the template 'total and deterministic' (their statements: YtmejnhfggmmefaaTotals.lean).
  GIVEN WITH THE SEED: the statements are not yours to turn. If you find one false, say at which input.
  Laid BY PROGRAM, IN A SANDBOX (cutbox-rows.mjs): the forced cells as the released guide's own fill.sh prints them over the translation b1783d2a2c3ef751… (all of the seat's roots in one cut). By AI agents, Wed Nov 11 2026. No macro, syntax, notation, axiom, sorry.
-/
import Derived.Test.YtmejnhfggmmefaaChecked
import GoSem.Claim
import GoSem.ClaimJoined
import GoSem.ClaimMapViews
import Derived.JoinedTies
import Derived.KernelRfl
namespace Go.Proofs.Ytmejnhfggmmefaa
/- THE CELL 'sum', in the pinned program and in every row, IS THE sha256 OF THE DUMP (.gsa) THAT YtmejnhfggmmefaaProg.lean LOADS. Nothing in Lean hashes anything: it is a label: what it is worth is what the hold of that sum in a sandbox is worth. -/
noncomputable def Try.pinned : Pinned := { name := "ytmejnhfggmmefaa", sum := "b1783d2a2c3ef751e9f4e54deb478d0ecc7e83410cabe8a19ea1f4ddf54b496d", checked := Try.checked }
namespace Rows
def none {H : Type} : Left H := { results := [], args := [] }

/-- 'rondeaulaw14.ModelPlays': WHATEVER THE INPUT: true; the input reads as it did. -/
def modelPlaysSpec : ChangeSpec := { name := "modelPlays", fn := fun _ => fun
  | [d1, d2] => { results := [.lit (.bool true)], args := [d1, d2] }
  | _ => none }
def modelPlaysRow : OpenClaim := { program := "ytmejnhfggmmefaa", sum := "b1783d2a2c3ef751e9f4e54deb478d0ecc7e83410cabe8a19ea1f4ddf54b496d", func := "rondeau/rondeaulaw14.ModelPlays", spec := "modelPlays", plainKeys := false, apart := false }
def ModelPlaysSaid : Prop := modelPlaysRow.holds Try.pinned (OpenSpec.ofChange modelPlaysSpec)

/-- ITS FALSE NEIGHBOUR: 'it returns false'. Refute it at one input. -/
def modelPlaysWrong : ChangeSpec := { name := "modelPlays", fn := fun _ => fun
  | [d1, d2] => { results := [.lit (.bool false)], args := [d1, d2] }
  | _ => none }
def ModelPlaysWrongFalsely : Prop := modelPlaysRow.holds Try.pinned (OpenSpec.ofChange modelPlaysWrong)

/-- 'rondeaulaw14.ModelQueue': WHATEVER THE INPUT: true; the input reads as it did. -/
def modelQueueSpec : ChangeSpec := { name := "modelQueue", fn := fun _ => fun
  | [d1, d2] => { results := [.lit (.bool true)], args := [d1, d2] }
  | _ => none }
def modelQueueRow : OpenClaim := { program := "ytmejnhfggmmefaa", sum := "b1783d2a2c3ef751e9f4e54deb478d0ecc7e83410cabe8a19ea1f4ddf54b496d", func := "rondeau/rondeaulaw14.ModelQueue", spec := "modelQueue", plainKeys := false, apart := false }
def ModelQueueSaid : Prop := modelQueueRow.holds Try.pinned (OpenSpec.ofChange modelQueueSpec)

/-- ITS FALSE NEIGHBOUR: 'it returns false'. Refute it at one input. -/
def modelQueueWrong : ChangeSpec := { name := "modelQueue", fn := fun _ => fun
  | [d1, d2] => { results := [.lit (.bool false)], args := [d1, d2] }
  | _ => none }
def ModelQueueWrongFalsely : Prop := modelQueueRow.holds Try.pinned (OpenSpec.ofChange modelQueueWrong)

/-- 'rondeaulaw14.ModelReaders': WHATEVER THE INPUT: true; the input reads as it did. -/
def modelReadersSpec : ChangeSpec := { name := "modelReaders", fn := fun _ => fun
  | [d1, d2] => { results := [.lit (.bool true)], args := [d1, d2] }
  | _ => none }
def modelReadersRow : OpenClaim := { program := "ytmejnhfggmmefaa", sum := "b1783d2a2c3ef751e9f4e54deb478d0ecc7e83410cabe8a19ea1f4ddf54b496d", func := "rondeau/rondeaulaw14.ModelReaders", spec := "modelReaders", plainKeys := false, apart := false }
def ModelReadersSaid : Prop := modelReadersRow.holds Try.pinned (OpenSpec.ofChange modelReadersSpec)

/-- ITS FALSE NEIGHBOUR: 'it returns false'. Refute it at one input. -/
def modelReadersWrong : ChangeSpec := { name := "modelReaders", fn := fun _ => fun
  | [d1, d2] => { results := [.lit (.bool false)], args := [d1, d2] }
  | _ => none }
def ModelReadersWrongFalsely : Prop := modelReadersRow.holds Try.pinned (OpenSpec.ofChange modelReadersWrong)

/-- 'rondeaulaw14.ModelNil': WHATEVER THE INPUT: true; the input reads as it did. -/
def modelNilSpec : ChangeSpec := { name := "modelNil", fn := fun _ => fun
  | [d1, d2] => { results := [.lit (.bool true)], args := [d1, d2] }
  | _ => none }
def modelNilRow : OpenClaim := { program := "ytmejnhfggmmefaa", sum := "b1783d2a2c3ef751e9f4e54deb478d0ecc7e83410cabe8a19ea1f4ddf54b496d", func := "rondeau/rondeaulaw14.ModelNil", spec := "modelNil", plainKeys := false, apart := false }
def ModelNilSaid : Prop := modelNilRow.holds Try.pinned (OpenSpec.ofChange modelNilSpec)

/-- ITS FALSE NEIGHBOUR: 'it returns false'. Refute it at one input. -/
def modelNilWrong : ChangeSpec := { name := "modelNil", fn := fun _ => fun
  | [d1, d2] => { results := [.lit (.bool false)], args := [d1, d2] }
  | _ => none }
def ModelNilWrongFalsely : Prop := modelNilRow.holds Try.pinned (OpenSpec.ofChange modelNilWrong)

/-- 'rondeaulaw12.SlotsPlays': WHATEVER THE INPUT: true; the input reads as it did. -/
def slotsPlaysSpec : ChangeSpec := { name := "slotsPlays", fn := fun _ => fun
  | [d1, d2, d3] => { results := [.lit (.bool true)], args := [d1, d2, d3] }
  | _ => none }
def slotsPlaysRow : OpenClaim := { program := "ytmejnhfggmmefaa", sum := "b1783d2a2c3ef751e9f4e54deb478d0ecc7e83410cabe8a19ea1f4ddf54b496d", func := "rondeau/rondeaulaw12.SlotsPlays", spec := "slotsPlays", plainKeys := false, apart := false }
def SlotsPlaysSaid : Prop := slotsPlaysRow.holds Try.pinned (OpenSpec.ofChange slotsPlaysSpec)

/-- ITS FALSE NEIGHBOUR: 'it returns false'. Refute it at one input. -/
def slotsPlaysWrong : ChangeSpec := { name := "slotsPlays", fn := fun _ => fun
  | [d1, d2, d3] => { results := [.lit (.bool false)], args := [d1, d2, d3] }
  | _ => none }
def SlotsPlaysWrongFalsely : Prop := slotsPlaysRow.holds Try.pinned (OpenSpec.ofChange slotsPlaysWrong)

/-- 'rondeaulaw12.SlotsOrder': WHATEVER THE INPUT: true; the input reads as it did. -/
def slotsOrderSpec : ChangeSpec := { name := "slotsOrder", fn := fun _ => fun
  | [d1, d2, d3] => { results := [.lit (.bool true)], args := [d1, d2, d3] }
  | _ => none }
def slotsOrderRow : OpenClaim := { program := "ytmejnhfggmmefaa", sum := "b1783d2a2c3ef751e9f4e54deb478d0ecc7e83410cabe8a19ea1f4ddf54b496d", func := "rondeau/rondeaulaw12.SlotsOrder", spec := "slotsOrder", plainKeys := false, apart := false }
def SlotsOrderSaid : Prop := slotsOrderRow.holds Try.pinned (OpenSpec.ofChange slotsOrderSpec)

/-- ITS FALSE NEIGHBOUR: 'it returns false'. Refute it at one input. -/
def slotsOrderWrong : ChangeSpec := { name := "slotsOrder", fn := fun _ => fun
  | [d1, d2, d3] => { results := [.lit (.bool false)], args := [d1, d2, d3] }
  | _ => none }
def SlotsOrderWrongFalsely : Prop := slotsOrderRow.holds Try.pinned (OpenSpec.ofChange slotsOrderWrong)

/-- 'rondeaulaw12.SlotsTurn': WHATEVER THE INPUT: true; the input reads as it did. -/
def slotsTurnSpec : ChangeSpec := { name := "slotsTurn", fn := fun _ => fun
  | [d1, d2, d3, d4, d5] => { results := [.lit (.bool true)], args := [d1, d2, d3, d4, d5] }
  | _ => none }
def slotsTurnRow : OpenClaim := { program := "ytmejnhfggmmefaa", sum := "b1783d2a2c3ef751e9f4e54deb478d0ecc7e83410cabe8a19ea1f4ddf54b496d", func := "rondeau/rondeaulaw12.SlotsTurn", spec := "slotsTurn", plainKeys := false, apart := false }
def SlotsTurnSaid : Prop := slotsTurnRow.holds Try.pinned (OpenSpec.ofChange slotsTurnSpec)

/-- ITS FALSE NEIGHBOUR: 'it returns false'. Refute it at one input. -/
def slotsTurnWrong : ChangeSpec := { name := "slotsTurn", fn := fun _ => fun
  | [d1, d2, d3, d4, d5] => { results := [.lit (.bool false)], args := [d1, d2, d3, d4, d5] }
  | _ => none }
def SlotsTurnWrongFalsely : Prop := slotsTurnRow.holds Try.pinned (OpenSpec.ofChange slotsTurnWrong)

/-- 'rondeaulaw12.SlotsOnce': WHATEVER THE INPUT: true; the input reads as it did. -/
def slotsOnceSpec : ChangeSpec := { name := "slotsOnce", fn := fun _ => fun
  | [d1, d2, d3, d4] => { results := [.lit (.bool true)], args := [d1, d2, d3, d4] }
  | _ => none }
def slotsOnceRow : OpenClaim := { program := "ytmejnhfggmmefaa", sum := "b1783d2a2c3ef751e9f4e54deb478d0ecc7e83410cabe8a19ea1f4ddf54b496d", func := "rondeau/rondeaulaw12.SlotsOnce", spec := "slotsOnce", plainKeys := false, apart := false }
def SlotsOnceSaid : Prop := slotsOnceRow.holds Try.pinned (OpenSpec.ofChange slotsOnceSpec)

/-- ITS FALSE NEIGHBOUR: 'it returns false'. Refute it at one input. -/
def slotsOnceWrong : ChangeSpec := { name := "slotsOnce", fn := fun _ => fun
  | [d1, d2, d3, d4] => { results := [.lit (.bool false)], args := [d1, d2, d3, d4] }
  | _ => none }
def SlotsOnceWrongFalsely : Prop := slotsOnceRow.holds Try.pinned (OpenSpec.ofChange slotsOnceWrong)

/-- 'rondeaulaw12.SlotsNil': WHATEVER THE INPUT: true; the input reads as it did. -/
def slotsNilSpec : ChangeSpec := { name := "slotsNil", fn := fun _ => fun
  | [d1, d2, d3] => { results := [.lit (.bool true)], args := [d1, d2, d3] }
  | _ => none }
def slotsNilRow : OpenClaim := { program := "ytmejnhfggmmefaa", sum := "b1783d2a2c3ef751e9f4e54deb478d0ecc7e83410cabe8a19ea1f4ddf54b496d", func := "rondeau/rondeaulaw12.SlotsNil", spec := "slotsNil", plainKeys := false, apart := false }
def SlotsNilSaid : Prop := slotsNilRow.holds Try.pinned (OpenSpec.ofChange slotsNilSpec)

/-- ITS FALSE NEIGHBOUR: 'it returns false'. Refute it at one input. -/
def slotsNilWrong : ChangeSpec := { name := "slotsNil", fn := fun _ => fun
  | [d1, d2, d3] => { results := [.lit (.bool false)], args := [d1, d2, d3] }
  | _ => none }
def SlotsNilWrongFalsely : Prop := slotsNilRow.holds Try.pinned (OpenSpec.ofChange slotsNilWrong)

/-- 'rondeaulaw14.ModelLinear': WHATEVER THE INPUT: true; the input reads as it did. -/
def modelLinearSpec : ChangeSpec := { name := "modelLinear", fn := fun _ => fun
  | [d1, d2] => { results := [.lit (.bool true)], args := [d1, d2] }
  | _ => none }
def modelLinearRow : OpenClaim := { program := "ytmejnhfggmmefaa", sum := "b1783d2a2c3ef751e9f4e54deb478d0ecc7e83410cabe8a19ea1f4ddf54b496d", func := "rondeau/rondeaulaw14.ModelLinear", spec := "modelLinear", plainKeys := false, apart := false }
def ModelLinearSaid : Prop := modelLinearRow.holds Try.pinned (OpenSpec.ofChange modelLinearSpec)

/-- ITS FALSE NEIGHBOUR: 'it returns false'. Refute it at one input. -/
def modelLinearWrong : ChangeSpec := { name := "modelLinear", fn := fun _ => fun
  | [d1, d2] => { results := [.lit (.bool false)], args := [d1, d2] }
  | _ => none }
def ModelLinearWrongFalsely : Prop := modelLinearRow.holds Try.pinned (OpenSpec.ofChange modelLinearWrong)

/-- 'rondeaulaw14.ModelProgress': WHATEVER THE INPUT: true; the input reads as it did. -/
def modelProgressSpec : ChangeSpec := { name := "modelProgress", fn := fun _ => fun
  | [d1, d2] => { results := [.lit (.bool true)], args := [d1, d2] }
  | _ => none }
def modelProgressRow : OpenClaim := { program := "ytmejnhfggmmefaa", sum := "b1783d2a2c3ef751e9f4e54deb478d0ecc7e83410cabe8a19ea1f4ddf54b496d", func := "rondeau/rondeaulaw14.ModelProgress", spec := "modelProgress", plainKeys := false, apart := false }
def ModelProgressSaid : Prop := modelProgressRow.holds Try.pinned (OpenSpec.ofChange modelProgressSpec)

/-- ITS FALSE NEIGHBOUR: 'it returns false'. Refute it at one input. -/
def modelProgressWrong : ChangeSpec := { name := "modelProgress", fn := fun _ => fun
  | [d1, d2] => { results := [.lit (.bool false)], args := [d1, d2] }
  | _ => none }
def ModelProgressWrongFalsely : Prop := modelProgressRow.holds Try.pinned (OpenSpec.ofChange modelProgressWrong)

/-- 'rondeaulaw13.RingCounts': WHATEVER THE INPUT: true; the input reads as it did. -/
def ringCountsSpec : ChangeSpec := { name := "ringCounts", fn := fun _ => fun
  | [d1, d2] => { results := [.lit (.bool true)], args := [d1, d2] }
  | _ => none }
def ringCountsRow : OpenClaim := { program := "ytmejnhfggmmefaa", sum := "b1783d2a2c3ef751e9f4e54deb478d0ecc7e83410cabe8a19ea1f4ddf54b496d", func := "rondeau/rondeaulaw13.RingCounts", spec := "ringCounts", plainKeys := false, apart := false }
def RingCountsSaid : Prop := ringCountsRow.holds Try.pinned (OpenSpec.ofChange ringCountsSpec)

/-- ITS FALSE NEIGHBOUR: 'it returns false'. Refute it at one input. -/
def ringCountsWrong : ChangeSpec := { name := "ringCounts", fn := fun _ => fun
  | [d1, d2] => { results := [.lit (.bool false)], args := [d1, d2] }
  | _ => none }
def RingCountsWrongFalsely : Prop := ringCountsRow.holds Try.pinned (OpenSpec.ofChange ringCountsWrong)

/-- 'rondeaulaw13.RingOrder': WHATEVER THE INPUT: true; the input reads as it did. -/
def ringOrderSpec : ChangeSpec := { name := "ringOrder", fn := fun _ => fun
  | [d1, d2] => { results := [.lit (.bool true)], args := [d1, d2] }
  | _ => none }
def ringOrderRow : OpenClaim := { program := "ytmejnhfggmmefaa", sum := "b1783d2a2c3ef751e9f4e54deb478d0ecc7e83410cabe8a19ea1f4ddf54b496d", func := "rondeau/rondeaulaw13.RingOrder", spec := "ringOrder", plainKeys := false, apart := false }
def RingOrderSaid : Prop := ringOrderRow.holds Try.pinned (OpenSpec.ofChange ringOrderSpec)

/-- ITS FALSE NEIGHBOUR: 'it returns false'. Refute it at one input. -/
def ringOrderWrong : ChangeSpec := { name := "ringOrder", fn := fun _ => fun
  | [d1, d2] => { results := [.lit (.bool false)], args := [d1, d2] }
  | _ => none }
def RingOrderWrongFalsely : Prop := ringOrderRow.holds Try.pinned (OpenSpec.ofChange ringOrderWrong)

/-- 'rondeaulaw13.RingClosed': WHATEVER THE INPUT: true; the input reads as it did. -/
def ringClosedSpec : ChangeSpec := { name := "ringClosed", fn := fun _ => fun
  | [d1, d2] => { results := [.lit (.bool true)], args := [d1, d2] }
  | _ => none }
def ringClosedRow : OpenClaim := { program := "ytmejnhfggmmefaa", sum := "b1783d2a2c3ef751e9f4e54deb478d0ecc7e83410cabe8a19ea1f4ddf54b496d", func := "rondeau/rondeaulaw13.RingClosed", spec := "ringClosed", plainKeys := false, apart := false }
def RingClosedSaid : Prop := ringClosedRow.holds Try.pinned (OpenSpec.ofChange ringClosedSpec)

/-- ITS FALSE NEIGHBOUR: 'it returns false'. Refute it at one input. -/
def ringClosedWrong : ChangeSpec := { name := "ringClosed", fn := fun _ => fun
  | [d1, d2] => { results := [.lit (.bool false)], args := [d1, d2] }
  | _ => none }
def RingClosedWrongFalsely : Prop := ringClosedRow.holds Try.pinned (OpenSpec.ofChange ringClosedWrong)

/-- 'rondeaulaw13.RingReady': WHATEVER THE INPUT: true; the input reads as it did. -/
def ringReadySpec : ChangeSpec := { name := "ringReady", fn := fun _ => fun
  | [d1, d2, d3] => { results := [.lit (.bool true)], args := [d1, d2, d3] }
  | _ => none }
def ringReadyRow : OpenClaim := { program := "ytmejnhfggmmefaa", sum := "b1783d2a2c3ef751e9f4e54deb478d0ecc7e83410cabe8a19ea1f4ddf54b496d", func := "rondeau/rondeaulaw13.RingReady", spec := "ringReady", plainKeys := false, apart := false }
def RingReadySaid : Prop := ringReadyRow.holds Try.pinned (OpenSpec.ofChange ringReadySpec)

/-- ITS FALSE NEIGHBOUR: 'it returns false'. Refute it at one input. -/
def ringReadyWrong : ChangeSpec := { name := "ringReady", fn := fun _ => fun
  | [d1, d2, d3] => { results := [.lit (.bool false)], args := [d1, d2, d3] }
  | _ => none }
def RingReadyWrongFalsely : Prop := ringReadyRow.holds Try.pinned (OpenSpec.ofChange ringReadyWrong)

/-- 'rondeaulaw13.RingPlays': WHATEVER THE INPUT: true; the input reads as it did. -/
def ringPlaysSpec : ChangeSpec := { name := "ringPlays", fn := fun _ => fun
  | [d1, d2] => { results := [.lit (.bool true)], args := [d1, d2] }
  | _ => none }
def ringPlaysRow : OpenClaim := { program := "ytmejnhfggmmefaa", sum := "b1783d2a2c3ef751e9f4e54deb478d0ecc7e83410cabe8a19ea1f4ddf54b496d", func := "rondeau/rondeaulaw13.RingPlays", spec := "ringPlays", plainKeys := false, apart := false }
def RingPlaysSaid : Prop := ringPlaysRow.holds Try.pinned (OpenSpec.ofChange ringPlaysSpec)

/-- ITS FALSE NEIGHBOUR: 'it returns false'. Refute it at one input. -/
def ringPlaysWrong : ChangeSpec := { name := "ringPlays", fn := fun _ => fun
  | [d1, d2] => { results := [.lit (.bool false)], args := [d1, d2] }
  | _ => none }
def RingPlaysWrongFalsely : Prop := ringPlaysRow.holds Try.pinned (OpenSpec.ofChange ringPlaysWrong)

/-- 'rondeaulaw13.RingLoads': WHATEVER THE INPUT: true; the input reads as it did. -/
def ringLoadsSpec : ChangeSpec := { name := "ringLoads", fn := fun _ => fun
  | [d1, d2, d3] => { results := [.lit (.bool true)], args := [d1, d2, d3] }
  | _ => none }
def ringLoadsRow : OpenClaim := { program := "ytmejnhfggmmefaa", sum := "b1783d2a2c3ef751e9f4e54deb478d0ecc7e83410cabe8a19ea1f4ddf54b496d", func := "rondeau/rondeaulaw13.RingLoads", spec := "ringLoads", plainKeys := false, apart := false }
def RingLoadsSaid : Prop := ringLoadsRow.holds Try.pinned (OpenSpec.ofChange ringLoadsSpec)

/-- ITS FALSE NEIGHBOUR: 'it returns false'. Refute it at one input. -/
def ringLoadsWrong : ChangeSpec := { name := "ringLoads", fn := fun _ => fun
  | [d1, d2, d3] => { results := [.lit (.bool false)], args := [d1, d2, d3] }
  | _ => none }
def RingLoadsWrongFalsely : Prop := ringLoadsRow.holds Try.pinned (OpenSpec.ofChange ringLoadsWrong)

/-- 'rondeaulaw13.RingNil': WHATEVER THE INPUT: true; the input reads as it did. -/
def ringNilSpec : ChangeSpec := { name := "ringNil", fn := fun _ => fun
  | [d] => { results := [.lit (.bool true)], args := [d] }
  | _ => none }
def ringNilRow : OpenClaim := { program := "ytmejnhfggmmefaa", sum := "b1783d2a2c3ef751e9f4e54deb478d0ecc7e83410cabe8a19ea1f4ddf54b496d", func := "rondeau/rondeaulaw13.RingNil", spec := "ringNil", plainKeys := false, apart := false }
def RingNilSaid : Prop := ringNilRow.holds Try.pinned (OpenSpec.ofChange ringNilSpec)

/-- ITS FALSE NEIGHBOUR: 'it returns false'. Refute it at one input. -/
def ringNilWrong : ChangeSpec := { name := "ringNil", fn := fun _ => fun
  | [d] => { results := [.lit (.bool false)], args := [d] }
  | _ => none }
def RingNilWrongFalsely : Prop := ringNilRow.holds Try.pinned (OpenSpec.ofChange ringNilWrong)

/- THE SECOND FORM. 'bulk': how many values and letters a reading holds, each counted each time it is reached (what is shared counts as often as it is met; a slice's spare places count too). A statement '..UptoSaid' is the law's where the arguments, and the package variables that the reading takes, are together of bulk at most 1048576: NARROWER than '..Said'. Prove '..Said' where nothing that the law and all that it calls make is longer than what came in: it says more and counts as full. Else prove '..UptoSaid'. A law counts once. -/
mutual
def uptoBulk {H : Type} : DataW H → Nat
  | .lit (.string bytes) => bytes.length + 1
  | .lit _ => 1
  | .nil => 1
  | .ptr d => uptoBulk d + 1
  | .slice elems spare => uptoBulkAll elems + uptoBulkAll spare + 1
  | .agg parts => uptoBulkAll parts + 1
  | .iface _ d => uptoBulk d + 1
  | .map entries => uptoBulkEntries entries + 1
  | .held _ => 1
def uptoBulkAll {H : Type} : List (DataW H) → Nat
  | [] => 0
  | d :: r => uptoBulk d + uptoBulkAll r
def uptoBulkEntries {H : Type} : List (Lit × DataW H) → Nat
  | [] => 0
  | x :: r => uptoBulkEntry x + uptoBulkEntries r
def uptoBulkEntry {H : Type} : Lit × DataW H → Nat
  | (.string bytes, d) => bytes.length + uptoBulk d + 1
  | (_, d) => uptoBulk d + 1
 end
def uptoSmall : (H : Type) → List (DataW H) → Bool := fun _ ds => decide (uptoBulkAll ds ≤ 1048576)
def OpenSpec.upto (s : _root_.Go.ChangeSpec) : _root_.Go.OpenSpec := { _root_.Go.OpenSpec.ofChange s with cond := some uptoSmall }

/-- 'rondeaulaw14.ModelPlays', WHERE WHAT IT READS IS OF BULK AT MOST 1048576: true; the input reads as it did. -/
def modelPlaysUptoRow : OpenClaim := { program := "ytmejnhfggmmefaa", sum := "b1783d2a2c3ef751e9f4e54deb478d0ecc7e83410cabe8a19ea1f4ddf54b496d", func := "rondeau/rondeaulaw14.ModelPlays", spec := "modelPlays", plainKeys := false, apart := false, narrowed := true }
def ModelPlaysUptoSaid : Prop := modelPlaysUptoRow.holds Try.pinned (OpenSpec.upto modelPlaysSpec)

/-- 'rondeaulaw14.ModelQueue', WHERE WHAT IT READS IS OF BULK AT MOST 1048576: true; the input reads as it did. -/
def modelQueueUptoRow : OpenClaim := { program := "ytmejnhfggmmefaa", sum := "b1783d2a2c3ef751e9f4e54deb478d0ecc7e83410cabe8a19ea1f4ddf54b496d", func := "rondeau/rondeaulaw14.ModelQueue", spec := "modelQueue", plainKeys := false, apart := false, narrowed := true }
def ModelQueueUptoSaid : Prop := modelQueueUptoRow.holds Try.pinned (OpenSpec.upto modelQueueSpec)

/-- 'rondeaulaw14.ModelReaders', WHERE WHAT IT READS IS OF BULK AT MOST 1048576: true; the input reads as it did. -/
def modelReadersUptoRow : OpenClaim := { program := "ytmejnhfggmmefaa", sum := "b1783d2a2c3ef751e9f4e54deb478d0ecc7e83410cabe8a19ea1f4ddf54b496d", func := "rondeau/rondeaulaw14.ModelReaders", spec := "modelReaders", plainKeys := false, apart := false, narrowed := true }
def ModelReadersUptoSaid : Prop := modelReadersUptoRow.holds Try.pinned (OpenSpec.upto modelReadersSpec)

/-- 'rondeaulaw14.ModelNil', WHERE WHAT IT READS IS OF BULK AT MOST 1048576: true; the input reads as it did. -/
def modelNilUptoRow : OpenClaim := { program := "ytmejnhfggmmefaa", sum := "b1783d2a2c3ef751e9f4e54deb478d0ecc7e83410cabe8a19ea1f4ddf54b496d", func := "rondeau/rondeaulaw14.ModelNil", spec := "modelNil", plainKeys := false, apart := false, narrowed := true }
def ModelNilUptoSaid : Prop := modelNilUptoRow.holds Try.pinned (OpenSpec.upto modelNilSpec)

/-- 'rondeaulaw12.SlotsPlays', WHERE WHAT IT READS IS OF BULK AT MOST 1048576: true; the input reads as it did. -/
def slotsPlaysUptoRow : OpenClaim := { program := "ytmejnhfggmmefaa", sum := "b1783d2a2c3ef751e9f4e54deb478d0ecc7e83410cabe8a19ea1f4ddf54b496d", func := "rondeau/rondeaulaw12.SlotsPlays", spec := "slotsPlays", plainKeys := false, apart := false, narrowed := true }
def SlotsPlaysUptoSaid : Prop := slotsPlaysUptoRow.holds Try.pinned (OpenSpec.upto slotsPlaysSpec)

/-- 'rondeaulaw12.SlotsOrder', WHERE WHAT IT READS IS OF BULK AT MOST 1048576: true; the input reads as it did. -/
def slotsOrderUptoRow : OpenClaim := { program := "ytmejnhfggmmefaa", sum := "b1783d2a2c3ef751e9f4e54deb478d0ecc7e83410cabe8a19ea1f4ddf54b496d", func := "rondeau/rondeaulaw12.SlotsOrder", spec := "slotsOrder", plainKeys := false, apart := false, narrowed := true }
def SlotsOrderUptoSaid : Prop := slotsOrderUptoRow.holds Try.pinned (OpenSpec.upto slotsOrderSpec)

/-- 'rondeaulaw12.SlotsTurn', WHERE WHAT IT READS IS OF BULK AT MOST 1048576: true; the input reads as it did. -/
def slotsTurnUptoRow : OpenClaim := { program := "ytmejnhfggmmefaa", sum := "b1783d2a2c3ef751e9f4e54deb478d0ecc7e83410cabe8a19ea1f4ddf54b496d", func := "rondeau/rondeaulaw12.SlotsTurn", spec := "slotsTurn", plainKeys := false, apart := false, narrowed := true }
def SlotsTurnUptoSaid : Prop := slotsTurnUptoRow.holds Try.pinned (OpenSpec.upto slotsTurnSpec)

/-- 'rondeaulaw12.SlotsOnce', WHERE WHAT IT READS IS OF BULK AT MOST 1048576: true; the input reads as it did. -/
def slotsOnceUptoRow : OpenClaim := { program := "ytmejnhfggmmefaa", sum := "b1783d2a2c3ef751e9f4e54deb478d0ecc7e83410cabe8a19ea1f4ddf54b496d", func := "rondeau/rondeaulaw12.SlotsOnce", spec := "slotsOnce", plainKeys := false, apart := false, narrowed := true }
def SlotsOnceUptoSaid : Prop := slotsOnceUptoRow.holds Try.pinned (OpenSpec.upto slotsOnceSpec)

/-- 'rondeaulaw12.SlotsNil', WHERE WHAT IT READS IS OF BULK AT MOST 1048576: true; the input reads as it did. -/
def slotsNilUptoRow : OpenClaim := { program := "ytmejnhfggmmefaa", sum := "b1783d2a2c3ef751e9f4e54deb478d0ecc7e83410cabe8a19ea1f4ddf54b496d", func := "rondeau/rondeaulaw12.SlotsNil", spec := "slotsNil", plainKeys := false, apart := false, narrowed := true }
def SlotsNilUptoSaid : Prop := slotsNilUptoRow.holds Try.pinned (OpenSpec.upto slotsNilSpec)

/-- 'rondeaulaw14.ModelLinear', WHERE WHAT IT READS IS OF BULK AT MOST 1048576: true; the input reads as it did. -/
def modelLinearUptoRow : OpenClaim := { program := "ytmejnhfggmmefaa", sum := "b1783d2a2c3ef751e9f4e54deb478d0ecc7e83410cabe8a19ea1f4ddf54b496d", func := "rondeau/rondeaulaw14.ModelLinear", spec := "modelLinear", plainKeys := false, apart := false, narrowed := true }
def ModelLinearUptoSaid : Prop := modelLinearUptoRow.holds Try.pinned (OpenSpec.upto modelLinearSpec)

/-- 'rondeaulaw14.ModelProgress', WHERE WHAT IT READS IS OF BULK AT MOST 1048576: true; the input reads as it did. -/
def modelProgressUptoRow : OpenClaim := { program := "ytmejnhfggmmefaa", sum := "b1783d2a2c3ef751e9f4e54deb478d0ecc7e83410cabe8a19ea1f4ddf54b496d", func := "rondeau/rondeaulaw14.ModelProgress", spec := "modelProgress", plainKeys := false, apart := false, narrowed := true }
def ModelProgressUptoSaid : Prop := modelProgressUptoRow.holds Try.pinned (OpenSpec.upto modelProgressSpec)

/-- 'rondeaulaw13.RingCounts', WHERE WHAT IT READS IS OF BULK AT MOST 1048576: true; the input reads as it did. -/
def ringCountsUptoRow : OpenClaim := { program := "ytmejnhfggmmefaa", sum := "b1783d2a2c3ef751e9f4e54deb478d0ecc7e83410cabe8a19ea1f4ddf54b496d", func := "rondeau/rondeaulaw13.RingCounts", spec := "ringCounts", plainKeys := false, apart := false, narrowed := true }
def RingCountsUptoSaid : Prop := ringCountsUptoRow.holds Try.pinned (OpenSpec.upto ringCountsSpec)

/-- 'rondeaulaw13.RingOrder', WHERE WHAT IT READS IS OF BULK AT MOST 1048576: true; the input reads as it did. -/
def ringOrderUptoRow : OpenClaim := { program := "ytmejnhfggmmefaa", sum := "b1783d2a2c3ef751e9f4e54deb478d0ecc7e83410cabe8a19ea1f4ddf54b496d", func := "rondeau/rondeaulaw13.RingOrder", spec := "ringOrder", plainKeys := false, apart := false, narrowed := true }
def RingOrderUptoSaid : Prop := ringOrderUptoRow.holds Try.pinned (OpenSpec.upto ringOrderSpec)

/-- 'rondeaulaw13.RingClosed', WHERE WHAT IT READS IS OF BULK AT MOST 1048576: true; the input reads as it did. -/
def ringClosedUptoRow : OpenClaim := { program := "ytmejnhfggmmefaa", sum := "b1783d2a2c3ef751e9f4e54deb478d0ecc7e83410cabe8a19ea1f4ddf54b496d", func := "rondeau/rondeaulaw13.RingClosed", spec := "ringClosed", plainKeys := false, apart := false, narrowed := true }
def RingClosedUptoSaid : Prop := ringClosedUptoRow.holds Try.pinned (OpenSpec.upto ringClosedSpec)

/-- 'rondeaulaw13.RingReady', WHERE WHAT IT READS IS OF BULK AT MOST 1048576: true; the input reads as it did. -/
def ringReadyUptoRow : OpenClaim := { program := "ytmejnhfggmmefaa", sum := "b1783d2a2c3ef751e9f4e54deb478d0ecc7e83410cabe8a19ea1f4ddf54b496d", func := "rondeau/rondeaulaw13.RingReady", spec := "ringReady", plainKeys := false, apart := false, narrowed := true }
def RingReadyUptoSaid : Prop := ringReadyUptoRow.holds Try.pinned (OpenSpec.upto ringReadySpec)

/-- 'rondeaulaw13.RingPlays', WHERE WHAT IT READS IS OF BULK AT MOST 1048576: true; the input reads as it did. -/
def ringPlaysUptoRow : OpenClaim := { program := "ytmejnhfggmmefaa", sum := "b1783d2a2c3ef751e9f4e54deb478d0ecc7e83410cabe8a19ea1f4ddf54b496d", func := "rondeau/rondeaulaw13.RingPlays", spec := "ringPlays", plainKeys := false, apart := false, narrowed := true }
def RingPlaysUptoSaid : Prop := ringPlaysUptoRow.holds Try.pinned (OpenSpec.upto ringPlaysSpec)

/-- 'rondeaulaw13.RingLoads', WHERE WHAT IT READS IS OF BULK AT MOST 1048576: true; the input reads as it did. -/
def ringLoadsUptoRow : OpenClaim := { program := "ytmejnhfggmmefaa", sum := "b1783d2a2c3ef751e9f4e54deb478d0ecc7e83410cabe8a19ea1f4ddf54b496d", func := "rondeau/rondeaulaw13.RingLoads", spec := "ringLoads", plainKeys := false, apart := false, narrowed := true }
def RingLoadsUptoSaid : Prop := ringLoadsUptoRow.holds Try.pinned (OpenSpec.upto ringLoadsSpec)

/-- 'rondeaulaw13.RingNil', WHERE WHAT IT READS IS OF BULK AT MOST 1048576: true; the input reads as it did. -/
def ringNilUptoRow : OpenClaim := { program := "ytmejnhfggmmefaa", sum := "b1783d2a2c3ef751e9f4e54deb478d0ecc7e83410cabe8a19ea1f4ddf54b496d", func := "rondeau/rondeaulaw13.RingNil", spec := "ringNil", plainKeys := false, apart := false, narrowed := true }
def RingNilUptoSaid : Prop := ringNilUptoRow.holds Try.pinned (OpenSpec.upto ringNilSpec)

end Rows
end Go.Proofs.Ytmejnhfggmmefaa
