/-
  No cell of these rows narrows 'for every input' (looked for: loops, veiled, ifaces, maps, wideKeys, modest, calm, conditions, laid).
  DERIVED. THE GIVEN ROWS OF THIS SEAT. 12 by the template 'for every input the law returns true; each argument reads behind the call as it read before'; 0 by the template 'total and deterministic' (their statements: YtmpdghokggdnoaaTotals.lean).
  GIVEN WITH THE SEED: the statements are not yours to turn. If you find one false, say at which input.
  Laid BY PROGRAM, IN A SANDBOX (cutbox-rows.mjs): the forced cells as the released guide's own fill.sh prints them over the translation d5b72431cad877cf… (all of the seat's roots in one cut). By AI agents, Wed Nov 11 2026. No macro, syntax, notation, axiom, sorry.
-/
import Derived.Test.YtmpdghokggdnoaaChecked
import GoSem.Claim
import GoSem.ClaimJoined
import GoSem.ClaimMapViews
import Derived.JoinedTies
import Derived.KernelRfl
namespace Go.Proofs.Ytmpdghokggdnoaa
/- THE CELL 'sum', in the pinned program and in every row, IS THE sha256 OF THE DUMP (.gsa) THAT YtmpdghokggdnoaaProg.lean LOADS. Nothing in Lean hashes anything: it is a label: what it is worth is what the hold of that sum in a sandbox is worth. -/
noncomputable def Try.pinned : Pinned := { name := "ytmpdghokggdnoaa", sum := "d5b72431cad877cffa9c2ca3fea11b9a985f1231c19c6893f2e856a86bd26382", checked := Try.checked }
namespace Rows
def none {H : Type} : Left H := { results := [], args := [] }

/-- 'rondeaulaw08.AluDoes': WHATEVER THE INPUT: true; the input reads as it did. -/
def aluDoesSpec : ChangeSpec := { name := "aluDoes", fn := fun _ => fun
  | [d1, d2, d3] => { results := [.lit (.bool true)], args := [d1, d2, d3] }
  | _ => none }
def aluDoesRow : OpenClaim := { program := "ytmpdghokggdnoaa", sum := "d5b72431cad877cffa9c2ca3fea11b9a985f1231c19c6893f2e856a86bd26382", func := "rondeau/rondeaulaw08.AluDoes", spec := "aluDoes", plainKeys := false, apart := false }
def AluDoesSaid : Prop := aluDoesRow.holds Try.pinned (OpenSpec.ofChange aluDoesSpec)

/-- ITS FALSE NEIGHBOUR: 'it returns false'. Refute it at one input. -/
def aluDoesWrong : ChangeSpec := { name := "aluDoes", fn := fun _ => fun
  | [d1, d2, d3] => { results := [.lit (.bool false)], args := [d1, d2, d3] }
  | _ => none }
def AluDoesWrongFalsely : Prop := aluDoesRow.holds Try.pinned (OpenSpec.ofChange aluDoesWrong)

/-- 'rondeaulaw08.AluLaws': WHATEVER THE INPUT: true; the input reads as it did. -/
def aluLawsSpec : ChangeSpec := { name := "aluLaws", fn := fun _ => fun
  | [d1, d2, d3] => { results := [.lit (.bool true)], args := [d1, d2, d3] }
  | _ => none }
def aluLawsRow : OpenClaim := { program := "ytmpdghokggdnoaa", sum := "d5b72431cad877cffa9c2ca3fea11b9a985f1231c19c6893f2e856a86bd26382", func := "rondeau/rondeaulaw08.AluLaws", spec := "aluLaws", unfollowed := true, recurses := true, plainKeys := false, apart := false }
def AluLawsSaid : Prop := aluLawsRow.holds Try.pinned (OpenSpec.ofChange aluLawsSpec)

/-- ITS FALSE NEIGHBOUR: 'it returns false'. Refute it at one input. -/
def aluLawsWrong : ChangeSpec := { name := "aluLaws", fn := fun _ => fun
  | [d1, d2, d3] => { results := [.lit (.bool false)], args := [d1, d2, d3] }
  | _ => none }
def AluLawsWrongFalsely : Prop := aluLawsRow.holds Try.pinned (OpenSpec.ofChange aluLawsWrong)

/-- 'rondeaulaw08.AluShifts': WHATEVER THE INPUT: true; the input reads as it did. -/
def aluShiftsSpec : ChangeSpec := { name := "aluShifts", fn := fun _ => fun
  | [d1, d2, d3] => { results := [.lit (.bool true)], args := [d1, d2, d3] }
  | _ => none }
def aluShiftsRow : OpenClaim := { program := "ytmpdghokggdnoaa", sum := "d5b72431cad877cffa9c2ca3fea11b9a985f1231c19c6893f2e856a86bd26382", func := "rondeau/rondeaulaw08.AluShifts", spec := "aluShifts", plainKeys := false, apart := false }
def AluShiftsSaid : Prop := aluShiftsRow.holds Try.pinned (OpenSpec.ofChange aluShiftsSpec)

/-- ITS FALSE NEIGHBOUR: 'it returns false'. Refute it at one input. -/
def aluShiftsWrong : ChangeSpec := { name := "aluShifts", fn := fun _ => fun
  | [d1, d2, d3] => { results := [.lit (.bool false)], args := [d1, d2, d3] }
  | _ => none }
def AluShiftsWrongFalsely : Prop := aluShiftsRow.holds Try.pinned (OpenSpec.ofChange aluShiftsWrong)

/-- 'rondeaulaw08.AluDivides': WHATEVER THE INPUT: true; the input reads as it did. -/
def aluDividesSpec : ChangeSpec := { name := "aluDivides", fn := fun _ => fun
  | [d1, d2] => { results := [.lit (.bool true)], args := [d1, d2] }
  | _ => none }
def aluDividesRow : OpenClaim := { program := "ytmpdghokggdnoaa", sum := "d5b72431cad877cffa9c2ca3fea11b9a985f1231c19c6893f2e856a86bd26382", func := "rondeau/rondeaulaw08.AluDivides", spec := "aluDivides", plainKeys := false, apart := false }
def AluDividesSaid : Prop := aluDividesRow.holds Try.pinned (OpenSpec.ofChange aluDividesSpec)

/-- ITS FALSE NEIGHBOUR: 'it returns false'. Refute it at one input. -/
def aluDividesWrong : ChangeSpec := { name := "aluDivides", fn := fun _ => fun
  | [d1, d2] => { results := [.lit (.bool false)], args := [d1, d2] }
  | _ => none }
def AluDividesWrongFalsely : Prop := aluDividesRow.holds Try.pinned (OpenSpec.ofChange aluDividesWrong)

/-- 'rondeaulaw08.AluOrders': WHATEVER THE INPUT: true; the input reads as it did. -/
def aluOrdersSpec : ChangeSpec := { name := "aluOrders", fn := fun _ => fun
  | [d1, d2, d3] => { results := [.lit (.bool true)], args := [d1, d2, d3] }
  | _ => none }
def aluOrdersRow : OpenClaim := { program := "ytmpdghokggdnoaa", sum := "d5b72431cad877cffa9c2ca3fea11b9a985f1231c19c6893f2e856a86bd26382", func := "rondeau/rondeaulaw08.AluOrders", spec := "aluOrders", plainKeys := false, apart := false }
def AluOrdersSaid : Prop := aluOrdersRow.holds Try.pinned (OpenSpec.ofChange aluOrdersSpec)

/-- ITS FALSE NEIGHBOUR: 'it returns false'. Refute it at one input. -/
def aluOrdersWrong : ChangeSpec := { name := "aluOrders", fn := fun _ => fun
  | [d1, d2, d3] => { results := [.lit (.bool false)], args := [d1, d2, d3] }
  | _ => none }
def AluOrdersWrongFalsely : Prop := aluOrdersRow.holds Try.pinned (OpenSpec.ofChange aluOrdersWrong)

/-- 'rondeaulaw14.ModelPlays': WHATEVER THE INPUT: true; the input reads as it did. -/
def modelPlaysSpec : ChangeSpec := { name := "modelPlays", fn := fun _ => fun
  | [d1, d2] => { results := [.lit (.bool true)], args := [d1, d2] }
  | _ => none }
def modelPlaysRow : OpenClaim := { program := "ytmpdghokggdnoaa", sum := "d5b72431cad877cffa9c2ca3fea11b9a985f1231c19c6893f2e856a86bd26382", func := "rondeau/rondeaulaw14.ModelPlays", spec := "modelPlays", plainKeys := false, apart := false }
def ModelPlaysSaid : Prop := modelPlaysRow.holds Try.pinned (OpenSpec.ofChange modelPlaysSpec)

/-- ITS FALSE NEIGHBOUR: 'it returns false'. Refute it at one input. -/
def modelPlaysWrong : ChangeSpec := { name := "modelPlays", fn := fun _ => fun
  | [d1, d2] => { results := [.lit (.bool false)], args := [d1, d2] }
  | _ => none }
def ModelPlaysWrongFalsely : Prop := modelPlaysRow.holds Try.pinned (OpenSpec.ofChange modelPlaysWrong)

/-- 'rondeaulaw14.ModelQueue': WHATEVER THE INPUT: true; the input reads as it did. -/
def modelQueueSpec : ChangeSpec := { name := "modelQueue", fn := fun _ => fun
  | [d1, d2] => { results := [.lit (.bool true)], args := [d1, d2] }
  | _ => none }
def modelQueueRow : OpenClaim := { program := "ytmpdghokggdnoaa", sum := "d5b72431cad877cffa9c2ca3fea11b9a985f1231c19c6893f2e856a86bd26382", func := "rondeau/rondeaulaw14.ModelQueue", spec := "modelQueue", plainKeys := false, apart := false }
def ModelQueueSaid : Prop := modelQueueRow.holds Try.pinned (OpenSpec.ofChange modelQueueSpec)

/-- ITS FALSE NEIGHBOUR: 'it returns false'. Refute it at one input. -/
def modelQueueWrong : ChangeSpec := { name := "modelQueue", fn := fun _ => fun
  | [d1, d2] => { results := [.lit (.bool false)], args := [d1, d2] }
  | _ => none }
def ModelQueueWrongFalsely : Prop := modelQueueRow.holds Try.pinned (OpenSpec.ofChange modelQueueWrong)

/-- 'rondeaulaw14.ModelReaders': WHATEVER THE INPUT: true; the input reads as it did. -/
def modelReadersSpec : ChangeSpec := { name := "modelReaders", fn := fun _ => fun
  | [d1, d2] => { results := [.lit (.bool true)], args := [d1, d2] }
  | _ => none }
def modelReadersRow : OpenClaim := { program := "ytmpdghokggdnoaa", sum := "d5b72431cad877cffa9c2ca3fea11b9a985f1231c19c6893f2e856a86bd26382", func := "rondeau/rondeaulaw14.ModelReaders", spec := "modelReaders", plainKeys := false, apart := false }
def ModelReadersSaid : Prop := modelReadersRow.holds Try.pinned (OpenSpec.ofChange modelReadersSpec)

/-- ITS FALSE NEIGHBOUR: 'it returns false'. Refute it at one input. -/
def modelReadersWrong : ChangeSpec := { name := "modelReaders", fn := fun _ => fun
  | [d1, d2] => { results := [.lit (.bool false)], args := [d1, d2] }
  | _ => none }
def ModelReadersWrongFalsely : Prop := modelReadersRow.holds Try.pinned (OpenSpec.ofChange modelReadersWrong)

/-- 'rondeaulaw14.ModelNil': WHATEVER THE INPUT: true; the input reads as it did. -/
def modelNilSpec : ChangeSpec := { name := "modelNil", fn := fun _ => fun
  | [d1, d2] => { results := [.lit (.bool true)], args := [d1, d2] }
  | _ => none }
def modelNilRow : OpenClaim := { program := "ytmpdghokggdnoaa", sum := "d5b72431cad877cffa9c2ca3fea11b9a985f1231c19c6893f2e856a86bd26382", func := "rondeau/rondeaulaw14.ModelNil", spec := "modelNil", plainKeys := false, apart := false }
def ModelNilSaid : Prop := modelNilRow.holds Try.pinned (OpenSpec.ofChange modelNilSpec)

/-- ITS FALSE NEIGHBOUR: 'it returns false'. Refute it at one input. -/
def modelNilWrong : ChangeSpec := { name := "modelNil", fn := fun _ => fun
  | [d1, d2] => { results := [.lit (.bool false)], args := [d1, d2] }
  | _ => none }
def ModelNilWrongFalsely : Prop := modelNilRow.holds Try.pinned (OpenSpec.ofChange modelNilWrong)

/-- 'rondeaulaw12.SlotsPlays': WHATEVER THE INPUT: true; the input reads as it did. -/
def slotsPlaysSpec : ChangeSpec := { name := "slotsPlays", fn := fun _ => fun
  | [d1, d2, d3] => { results := [.lit (.bool true)], args := [d1, d2, d3] }
  | _ => none }
def slotsPlaysRow : OpenClaim := { program := "ytmpdghokggdnoaa", sum := "d5b72431cad877cffa9c2ca3fea11b9a985f1231c19c6893f2e856a86bd26382", func := "rondeau/rondeaulaw12.SlotsPlays", spec := "slotsPlays", plainKeys := false, apart := false }
def SlotsPlaysSaid : Prop := slotsPlaysRow.holds Try.pinned (OpenSpec.ofChange slotsPlaysSpec)

/-- ITS FALSE NEIGHBOUR: 'it returns false'. Refute it at one input. -/
def slotsPlaysWrong : ChangeSpec := { name := "slotsPlays", fn := fun _ => fun
  | [d1, d2, d3] => { results := [.lit (.bool false)], args := [d1, d2, d3] }
  | _ => none }
def SlotsPlaysWrongFalsely : Prop := slotsPlaysRow.holds Try.pinned (OpenSpec.ofChange slotsPlaysWrong)

/-- 'rondeaulaw12.SlotsOrder': WHATEVER THE INPUT: true; the input reads as it did. -/
def slotsOrderSpec : ChangeSpec := { name := "slotsOrder", fn := fun _ => fun
  | [d1, d2, d3] => { results := [.lit (.bool true)], args := [d1, d2, d3] }
  | _ => none }
def slotsOrderRow : OpenClaim := { program := "ytmpdghokggdnoaa", sum := "d5b72431cad877cffa9c2ca3fea11b9a985f1231c19c6893f2e856a86bd26382", func := "rondeau/rondeaulaw12.SlotsOrder", spec := "slotsOrder", plainKeys := false, apart := false }
def SlotsOrderSaid : Prop := slotsOrderRow.holds Try.pinned (OpenSpec.ofChange slotsOrderSpec)

/-- ITS FALSE NEIGHBOUR: 'it returns false'. Refute it at one input. -/
def slotsOrderWrong : ChangeSpec := { name := "slotsOrder", fn := fun _ => fun
  | [d1, d2, d3] => { results := [.lit (.bool false)], args := [d1, d2, d3] }
  | _ => none }
def SlotsOrderWrongFalsely : Prop := slotsOrderRow.holds Try.pinned (OpenSpec.ofChange slotsOrderWrong)

/-- 'rondeaulaw12.SlotsTurn': WHATEVER THE INPUT: true; the input reads as it did. -/
def slotsTurnSpec : ChangeSpec := { name := "slotsTurn", fn := fun _ => fun
  | [d1, d2, d3, d4, d5] => { results := [.lit (.bool true)], args := [d1, d2, d3, d4, d5] }
  | _ => none }
def slotsTurnRow : OpenClaim := { program := "ytmpdghokggdnoaa", sum := "d5b72431cad877cffa9c2ca3fea11b9a985f1231c19c6893f2e856a86bd26382", func := "rondeau/rondeaulaw12.SlotsTurn", spec := "slotsTurn", plainKeys := false, apart := false }
def SlotsTurnSaid : Prop := slotsTurnRow.holds Try.pinned (OpenSpec.ofChange slotsTurnSpec)

/-- ITS FALSE NEIGHBOUR: 'it returns false'. Refute it at one input. -/
def slotsTurnWrong : ChangeSpec := { name := "slotsTurn", fn := fun _ => fun
  | [d1, d2, d3, d4, d5] => { results := [.lit (.bool false)], args := [d1, d2, d3, d4, d5] }
  | _ => none }
def SlotsTurnWrongFalsely : Prop := slotsTurnRow.holds Try.pinned (OpenSpec.ofChange slotsTurnWrong)

/- THE SECOND FORM. 'bulk': how many values and letters a reading holds, each counted each time it is reached (what is shared counts as often as it is met; a slice's spare places count too). A statement '..UptoSaid' is the law's where the arguments, and the package variables that the reading takes, are together of bulk at most 1048576: NARROWER than '..Said'. Prove '..Said' where nothing that the law and all that it calls make is longer than what came in: it says more and counts as full. Else prove '..UptoSaid'. A law counts once. -/
mutual
def uptoBulk {H : Type} : DataW H → Nat
  | .lit (.string bytes) => bytes.length + 1
  | .lit _ => 1
  | .nil => 1
  | .ptr d => uptoBulk d + 1
  | .slice elems spare => uptoBulkAll elems + uptoBulkAll spare + 1
  | .agg parts => uptoBulkAll parts + 1
  | .iface _ d => uptoBulk d + 1
  | .map entries => uptoBulkEntries entries + 1
  | .held _ => 1
def uptoBulkAll {H : Type} : List (DataW H) → Nat
  | [] => 0
  | d :: r => uptoBulk d + uptoBulkAll r
def uptoBulkEntries {H : Type} : List (Lit × DataW H) → Nat
  | [] => 0
  | x :: r => uptoBulkEntry x + uptoBulkEntries r
def uptoBulkEntry {H : Type} : Lit × DataW H → Nat
  | (.string bytes, d) => bytes.length + uptoBulk d + 1
  | (_, d) => uptoBulk d + 1
 end
def uptoSmall : (H : Type) → List (DataW H) → Bool := fun _ ds => decide (uptoBulkAll ds ≤ 1048576)
def OpenSpec.upto (s : _root_.Go.ChangeSpec) : _root_.Go.OpenSpec := { _root_.Go.OpenSpec.ofChange s with cond := some uptoSmall }

/-- 'rondeaulaw08.AluDoes', WHERE WHAT IT READS IS OF BULK AT MOST 1048576: true; the input reads as it did. -/
def aluDoesUptoRow : OpenClaim := { program := "ytmpdghokggdnoaa", sum := "d5b72431cad877cffa9c2ca3fea11b9a985f1231c19c6893f2e856a86bd26382", func := "rondeau/rondeaulaw08.AluDoes", spec := "aluDoes", plainKeys := false, apart := false, narrowed := true }
def AluDoesUptoSaid : Prop := aluDoesUptoRow.holds Try.pinned (OpenSpec.upto aluDoesSpec)

/-- 'rondeaulaw08.AluLaws', WHERE WHAT IT READS IS OF BULK AT MOST 1048576: true; the input reads as it did. -/
def aluLawsUptoRow : OpenClaim := { program := "ytmpdghokggdnoaa", sum := "d5b72431cad877cffa9c2ca3fea11b9a985f1231c19c6893f2e856a86bd26382", func := "rondeau/rondeaulaw08.AluLaws", spec := "aluLaws", unfollowed := true, recurses := true, plainKeys := false, apart := false, narrowed := true }
def AluLawsUptoSaid : Prop := aluLawsUptoRow.holds Try.pinned (OpenSpec.upto aluLawsSpec)

/-- 'rondeaulaw08.AluShifts', WHERE WHAT IT READS IS OF BULK AT MOST 1048576: true; the input reads as it did. -/
def aluShiftsUptoRow : OpenClaim := { program := "ytmpdghokggdnoaa", sum := "d5b72431cad877cffa9c2ca3fea11b9a985f1231c19c6893f2e856a86bd26382", func := "rondeau/rondeaulaw08.AluShifts", spec := "aluShifts", plainKeys := false, apart := false, narrowed := true }
def AluShiftsUptoSaid : Prop := aluShiftsUptoRow.holds Try.pinned (OpenSpec.upto aluShiftsSpec)

/-- 'rondeaulaw08.AluDivides', WHERE WHAT IT READS IS OF BULK AT MOST 1048576: true; the input reads as it did. -/
def aluDividesUptoRow : OpenClaim := { program := "ytmpdghokggdnoaa", sum := "d5b72431cad877cffa9c2ca3fea11b9a985f1231c19c6893f2e856a86bd26382", func := "rondeau/rondeaulaw08.AluDivides", spec := "aluDivides", plainKeys := false, apart := false, narrowed := true }
def AluDividesUptoSaid : Prop := aluDividesUptoRow.holds Try.pinned (OpenSpec.upto aluDividesSpec)

/-- 'rondeaulaw08.AluOrders', WHERE WHAT IT READS IS OF BULK AT MOST 1048576: true; the input reads as it did. -/
def aluOrdersUptoRow : OpenClaim := { program := "ytmpdghokggdnoaa", sum := "d5b72431cad877cffa9c2ca3fea11b9a985f1231c19c6893f2e856a86bd26382", func := "rondeau/rondeaulaw08.AluOrders", spec := "aluOrders", plainKeys := false, apart := false, narrowed := true }
def AluOrdersUptoSaid : Prop := aluOrdersUptoRow.holds Try.pinned (OpenSpec.upto aluOrdersSpec)

/-- 'rondeaulaw14.ModelPlays', WHERE WHAT IT READS IS OF BULK AT MOST 1048576: true; the input reads as it did. -/
def modelPlaysUptoRow : OpenClaim := { program := "ytmpdghokggdnoaa", sum := "d5b72431cad877cffa9c2ca3fea11b9a985f1231c19c6893f2e856a86bd26382", func := "rondeau/rondeaulaw14.ModelPlays", spec := "modelPlays", plainKeys := false, apart := false, narrowed := true }
def ModelPlaysUptoSaid : Prop := modelPlaysUptoRow.holds Try.pinned (OpenSpec.upto modelPlaysSpec)

/-- 'rondeaulaw14.ModelQueue', WHERE WHAT IT READS IS OF BULK AT MOST 1048576: true; the input reads as it did. -/
def modelQueueUptoRow : OpenClaim := { program := "ytmpdghokggdnoaa", sum := "d5b72431cad877cffa9c2ca3fea11b9a985f1231c19c6893f2e856a86bd26382", func := "rondeau/rondeaulaw14.ModelQueue", spec := "modelQueue", plainKeys := false, apart := false, narrowed := true }
def ModelQueueUptoSaid : Prop := modelQueueUptoRow.holds Try.pinned (OpenSpec.upto modelQueueSpec)

/-- 'rondeaulaw14.ModelReaders', WHERE WHAT IT READS IS OF BULK AT MOST 1048576: true; the input reads as it did. -/
def modelReadersUptoRow : OpenClaim := { program := "ytmpdghokggdnoaa", sum := "d5b72431cad877cffa9c2ca3fea11b9a985f1231c19c6893f2e856a86bd26382", func := "rondeau/rondeaulaw14.ModelReaders", spec := "modelReaders", plainKeys := false, apart := false, narrowed := true }
def ModelReadersUptoSaid : Prop := modelReadersUptoRow.holds Try.pinned (OpenSpec.upto modelReadersSpec)

/-- 'rondeaulaw14.ModelNil', WHERE WHAT IT READS IS OF BULK AT MOST 1048576: true; the input reads as it did. -/
def modelNilUptoRow : OpenClaim := { program := "ytmpdghokggdnoaa", sum := "d5b72431cad877cffa9c2ca3fea11b9a985f1231c19c6893f2e856a86bd26382", func := "rondeau/rondeaulaw14.ModelNil", spec := "modelNil", plainKeys := false, apart := false, narrowed := true }
def ModelNilUptoSaid : Prop := modelNilUptoRow.holds Try.pinned (OpenSpec.upto modelNilSpec)

/-- 'rondeaulaw12.SlotsPlays', WHERE WHAT IT READS IS OF BULK AT MOST 1048576: true; the input reads as it did. -/
def slotsPlaysUptoRow : OpenClaim := { program := "ytmpdghokggdnoaa", sum := "d5b72431cad877cffa9c2ca3fea11b9a985f1231c19c6893f2e856a86bd26382", func := "rondeau/rondeaulaw12.SlotsPlays", spec := "slotsPlays", plainKeys := false, apart := false, narrowed := true }
def SlotsPlaysUptoSaid : Prop := slotsPlaysUptoRow.holds Try.pinned (OpenSpec.upto slotsPlaysSpec)

/-- 'rondeaulaw12.SlotsOrder', WHERE WHAT IT READS IS OF BULK AT MOST 1048576: true; the input reads as it did. -/
def slotsOrderUptoRow : OpenClaim := { program := "ytmpdghokggdnoaa", sum := "d5b72431cad877cffa9c2ca3fea11b9a985f1231c19c6893f2e856a86bd26382", func := "rondeau/rondeaulaw12.SlotsOrder", spec := "slotsOrder", plainKeys := false, apart := false, narrowed := true }
def SlotsOrderUptoSaid : Prop := slotsOrderUptoRow.holds Try.pinned (OpenSpec.upto slotsOrderSpec)

/-- 'rondeaulaw12.SlotsTurn', WHERE WHAT IT READS IS OF BULK AT MOST 1048576: true; the input reads as it did. -/
def slotsTurnUptoRow : OpenClaim := { program := "ytmpdghokggdnoaa", sum := "d5b72431cad877cffa9c2ca3fea11b9a985f1231c19c6893f2e856a86bd26382", func := "rondeau/rondeaulaw12.SlotsTurn", spec := "slotsTurn", plainKeys := false, apart := false, narrowed := true }
def SlotsTurnUptoSaid : Prop := slotsTurnUptoRow.holds Try.pinned (OpenSpec.upto slotsTurnSpec)

end Rows
end Go.Proofs.Ytmpdghokggdnoaa
