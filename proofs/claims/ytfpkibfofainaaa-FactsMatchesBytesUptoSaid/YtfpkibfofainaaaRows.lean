/-
  NARROWER THAN 'FOR EVERY INPUT', by the rows' own cells (each row's printed sentence says how): FactsBases: loops · FactsTables: loops · FactsFields: loops · FactsMatchesCheck: loops.
  DERIVED. THE GIVEN ROWS OF THIS SEAT. 10 by the template 'for every input the law returns true; each argument reads behind the call as it read before'; 0 by the template 'total and deterministic' (their statements: YtfpkibfofainaaaTotals.lean).
  GIVEN WITH THE SEED: the statements are not yours to turn. If you find one false, say at which input.
  Laid BY PROGRAM, IN A SANDBOX (cutbox-rows.mjs): the forced cells as the released guide's own fill.sh prints them over the translation 0f66a03f9f4d7f40… (all of the seat's roots in one cut). By AI agents, Wed Nov 11 2026. No macro, syntax, notation, axiom, sorry.
-/
import Derived.Test.YtfpkibfofainaaaChecked
import GoSem.Claim
import GoSem.ClaimJoined
import GoSem.ClaimMapViews
import Derived.JoinedTies
import Derived.KernelRfl
namespace Go.Proofs.Ytfpkibfofainaaa
/- THE CELL 'sum', in the pinned program and in every row, IS THE sha256 OF THE DUMP (.gsa) THAT YtfpkibfofainaaaProg.lean LOADS. Nothing in Lean hashes anything: it is a label: what it is worth is what the hold of that sum in a sandbox is worth. -/
noncomputable def Try.pinned : Pinned := { name := "ytfpkibfofainaaa", sum := "0f66a03f9f4d7f4010052486020e83a4c3e4918aaa2f89cfe293cfc01b825272", checked := Try.checked }
namespace Rows
def none {H : Type} : Left H := { results := [], args := [] }

/-- 'asoflaw13.FactsReadBack': WHATEVER THE INPUT: true; the input reads as it did. -/
def factsReadBackSpec : ChangeSpec := { name := "factsReadBack", fn := fun _ => fun
  | [d1, d2, d3, d4] => { results := [.lit (.bool true)], args := [d1, d2, d3, d4] }
  | _ => none }
def factsReadBackRow : OpenClaim := { program := "ytfpkibfofainaaa", sum := "0f66a03f9f4d7f4010052486020e83a4c3e4918aaa2f89cfe293cfc01b825272", func := "asof/asoflaw13.FactsReadBack", spec := "factsReadBack", inPlace := ["internal/bytealg.IndexByteString", "internal/bytealg.IndexString"], unfollowed := true, recurses := true, named := ["internal/bytealg.MaxLen"], apart := false }
def FactsReadBackSaid : Prop := factsReadBackRow.holds Try.pinned (OpenSpec.ofChange factsReadBackSpec)

/-- ITS FALSE NEIGHBOUR: 'it returns false'. Refute it at one input. -/
def factsReadBackWrong : ChangeSpec := { name := "factsReadBack", fn := fun _ => fun
  | [d1, d2, d3, d4] => { results := [.lit (.bool false)], args := [d1, d2, d3, d4] }
  | _ => none }
def FactsReadBackWrongFalsely : Prop := factsReadBackRow.holds Try.pinned (OpenSpec.ofChange factsReadBackWrong)

/-- 'asoflaw13.FactsStreams': WHATEVER THE INPUT: true; the input reads as it did. -/
def factsStreamsSpec : ChangeSpec := { name := "factsStreams", fn := fun _ => fun
  | [d] => { results := [.lit (.bool true)], args := [d] }
  | _ => none }
def factsStreamsRow : OpenClaim := { program := "ytfpkibfofainaaa", sum := "0f66a03f9f4d7f4010052486020e83a4c3e4918aaa2f89cfe293cfc01b825272", func := "asof/asoflaw13.FactsStreams", spec := "factsStreams", inPlace := ["internal/bytealg.IndexByteString", "internal/bytealg.IndexString"], unfollowed := true, recurses := true, named := ["internal/bytealg.MaxLen"], apart := false }
def FactsStreamsSaid : Prop := factsStreamsRow.holds Try.pinned (OpenSpec.ofChange factsStreamsSpec)

/-- ITS FALSE NEIGHBOUR: 'it returns false'. Refute it at one input. -/
def factsStreamsWrong : ChangeSpec := { name := "factsStreams", fn := fun _ => fun
  | [d] => { results := [.lit (.bool false)], args := [d] }
  | _ => none }
def FactsStreamsWrongFalsely : Prop := factsStreamsRow.holds Try.pinned (OpenSpec.ofChange factsStreamsWrong)

/-- 'asoflaw13.FactsBases': WHATEVER THE INPUT: true; the input reads as it did. -/
def factsBasesSpec : ChangeSpec := { name := "factsBases", fn := fun _ => fun
  | [d1, d2, d3] => { results := [.lit (.bool true)], args := [d1, d2, d3] }
  | _ => none }
def factsBasesRow : OpenClaim := { program := "ytfpkibfofainaaa", sum := "0f66a03f9f4d7f4010052486020e83a4c3e4918aaa2f89cfe293cfc01b825272", func := "asof/asoflaw13.FactsBases", spec := "factsBases", inPlace := ["internal/bytealg.IndexByteString", "internal/bytealg.IndexString"], named := ["internal/bytealg.MaxLen"], loops := true, apart := false }
def FactsBasesSaid : Prop := factsBasesRow.holds Try.pinned (OpenSpec.ofChange factsBasesSpec)

/-- ITS FALSE NEIGHBOUR: 'it returns false'. Refute it at one input. -/
def factsBasesWrong : ChangeSpec := { name := "factsBases", fn := fun _ => fun
  | [d1, d2, d3] => { results := [.lit (.bool false)], args := [d1, d2, d3] }
  | _ => none }
def FactsBasesWrongFalsely : Prop := factsBasesRow.holds Try.pinned (OpenSpec.ofChange factsBasesWrong)

/-- 'asoflaw13.FactsTables': WHATEVER THE INPUT: true; the input reads as it did. -/
def factsTablesSpec : ChangeSpec := { name := "factsTables", fn := fun _ => fun
  | [d1, d2] => { results := [.lit (.bool true)], args := [d1, d2] }
  | _ => none }
def factsTablesRow : OpenClaim := { program := "ytfpkibfofainaaa", sum := "0f66a03f9f4d7f4010052486020e83a4c3e4918aaa2f89cfe293cfc01b825272", func := "asof/asoflaw13.FactsTables", spec := "factsTables", inPlace := ["internal/bytealg.IndexByteString", "internal/bytealg.IndexString"], named := ["internal/bytealg.MaxLen"], loops := true, apart := false }
def FactsTablesSaid : Prop := factsTablesRow.holds Try.pinned (OpenSpec.ofChange factsTablesSpec)

/-- ITS FALSE NEIGHBOUR: 'it returns false'. Refute it at one input. -/
def factsTablesWrong : ChangeSpec := { name := "factsTables", fn := fun _ => fun
  | [d1, d2] => { results := [.lit (.bool false)], args := [d1, d2] }
  | _ => none }
def FactsTablesWrongFalsely : Prop := factsTablesRow.holds Try.pinned (OpenSpec.ofChange factsTablesWrong)

/-- 'asoflaw13.FactsFields': WHATEVER THE INPUT: true; the input reads as it did. -/
def factsFieldsSpec : ChangeSpec := { name := "factsFields", fn := fun _ => fun
  | [d1, d2] => { results := [.lit (.bool true)], args := [d1, d2] }
  | _ => none }
def factsFieldsRow : OpenClaim := { program := "ytfpkibfofainaaa", sum := "0f66a03f9f4d7f4010052486020e83a4c3e4918aaa2f89cfe293cfc01b825272", func := "asof/asoflaw13.FactsFields", spec := "factsFields", inPlace := ["internal/bytealg.IndexByteString", "internal/bytealg.IndexString"], named := ["internal/bytealg.MaxLen"], loops := true, apart := false }
def FactsFieldsSaid : Prop := factsFieldsRow.holds Try.pinned (OpenSpec.ofChange factsFieldsSpec)

/-- ITS FALSE NEIGHBOUR: 'it returns false'. Refute it at one input. -/
def factsFieldsWrong : ChangeSpec := { name := "factsFields", fn := fun _ => fun
  | [d1, d2] => { results := [.lit (.bool false)], args := [d1, d2] }
  | _ => none }
def FactsFieldsWrongFalsely : Prop := factsFieldsRow.holds Try.pinned (OpenSpec.ofChange factsFieldsWrong)

/-- 'asoflaw13.FactsMatchesCheck': WHATEVER THE INPUT: true; the input reads as it did. -/
def factsMatchesCheckSpec : ChangeSpec := { name := "factsMatchesCheck", fn := fun _ => fun
  | [d1, d2, d3] => { results := [.lit (.bool true)], args := [d1, d2, d3] }
  | _ => none }
def factsMatchesCheckRow : OpenClaim := { program := "ytfpkibfofainaaa", sum := "0f66a03f9f4d7f4010052486020e83a4c3e4918aaa2f89cfe293cfc01b825272", func := "asof/asoflaw13.FactsMatchesCheck", spec := "factsMatchesCheck", inPlace := ["internal/bytealg.IndexByteString", "internal/bytealg.IndexString"], named := ["internal/bytealg.MaxLen"], loops := true, apart := false }
def FactsMatchesCheckSaid : Prop := factsMatchesCheckRow.holds Try.pinned (OpenSpec.ofChange factsMatchesCheckSpec)

/-- ITS FALSE NEIGHBOUR: 'it returns false'. Refute it at one input. -/
def factsMatchesCheckWrong : ChangeSpec := { name := "factsMatchesCheck", fn := fun _ => fun
  | [d1, d2, d3] => { results := [.lit (.bool false)], args := [d1, d2, d3] }
  | _ => none }
def FactsMatchesCheckWrongFalsely : Prop := factsMatchesCheckRow.holds Try.pinned (OpenSpec.ofChange factsMatchesCheckWrong)

/-- 'asoflaw13.FactsMatchesOrder': WHATEVER THE INPUT: true; the input reads as it did. -/
def factsMatchesOrderSpec : ChangeSpec := { name := "factsMatchesOrder", fn := fun _ => fun
  | [d1, d2] => { results := [.lit (.bool true)], args := [d1, d2] }
  | _ => none }
def factsMatchesOrderRow : OpenClaim := { program := "ytfpkibfofainaaa", sum := "0f66a03f9f4d7f4010052486020e83a4c3e4918aaa2f89cfe293cfc01b825272", func := "asof/asoflaw13.FactsMatchesOrder", spec := "factsMatchesOrder", inPlace := ["internal/bytealg.IndexByteString", "internal/bytealg.IndexString"], named := ["internal/bytealg.MaxLen"], apart := false }
def FactsMatchesOrderSaid : Prop := factsMatchesOrderRow.holds Try.pinned (OpenSpec.ofChange factsMatchesOrderSpec)

/-- ITS FALSE NEIGHBOUR: 'it returns false'. Refute it at one input. -/
def factsMatchesOrderWrong : ChangeSpec := { name := "factsMatchesOrder", fn := fun _ => fun
  | [d1, d2] => { results := [.lit (.bool false)], args := [d1, d2] }
  | _ => none }
def FactsMatchesOrderWrongFalsely : Prop := factsMatchesOrderRow.holds Try.pinned (OpenSpec.ofChange factsMatchesOrderWrong)

/-- 'asoflaw13.FactsOrders': WHATEVER THE INPUT: true; the input reads as it did. -/
def factsOrdersSpec : ChangeSpec := { name := "factsOrders", fn := fun _ => fun
  | [d1, d2, d3] => { results := [.lit (.bool true)], args := [d1, d2, d3] }
  | _ => none }
def factsOrdersRow : OpenClaim := { program := "ytfpkibfofainaaa", sum := "0f66a03f9f4d7f4010052486020e83a4c3e4918aaa2f89cfe293cfc01b825272", func := "asof/asoflaw13.FactsOrders", spec := "factsOrders", inPlace := ["internal/bytealg.IndexByteString", "internal/bytealg.IndexString"], named := ["internal/bytealg.MaxLen"], apart := false }
def FactsOrdersSaid : Prop := factsOrdersRow.holds Try.pinned (OpenSpec.ofChange factsOrdersSpec)

/-- ITS FALSE NEIGHBOUR: 'it returns false'. Refute it at one input. -/
def factsOrdersWrong : ChangeSpec := { name := "factsOrders", fn := fun _ => fun
  | [d1, d2, d3] => { results := [.lit (.bool false)], args := [d1, d2, d3] }
  | _ => none }
def FactsOrdersWrongFalsely : Prop := factsOrdersRow.holds Try.pinned (OpenSpec.ofChange factsOrdersWrong)

/-- 'asoflaw13.FactsDiffer': WHATEVER THE INPUT: true; the input reads as it did. -/
def factsDifferSpec : ChangeSpec := { name := "factsDiffer", fn := fun _ => fun
  | [d1, d2] => { results := [.lit (.bool true)], args := [d1, d2] }
  | _ => none }
def factsDifferRow : OpenClaim := { program := "ytfpkibfofainaaa", sum := "0f66a03f9f4d7f4010052486020e83a4c3e4918aaa2f89cfe293cfc01b825272", func := "asof/asoflaw13.FactsDiffer", spec := "factsDiffer", inPlace := ["internal/bytealg.IndexByteString", "internal/bytealg.IndexString"], unfollowed := true, recurses := true, named := ["internal/bytealg.MaxLen"], apart := false }
def FactsDifferSaid : Prop := factsDifferRow.holds Try.pinned (OpenSpec.ofChange factsDifferSpec)

/-- ITS FALSE NEIGHBOUR: 'it returns false'. Refute it at one input. -/
def factsDifferWrong : ChangeSpec := { name := "factsDiffer", fn := fun _ => fun
  | [d1, d2] => { results := [.lit (.bool false)], args := [d1, d2] }
  | _ => none }
def FactsDifferWrongFalsely : Prop := factsDifferRow.holds Try.pinned (OpenSpec.ofChange factsDifferWrong)

/-- 'asoflaw13.FactsMatchesBytes': WHATEVER THE INPUT: true; the input reads as it did. -/
def factsMatchesBytesSpec : ChangeSpec := { name := "factsMatchesBytes", fn := fun _ => fun
  | [d1, d2, d3] => { results := [.lit (.bool true)], args := [d1, d2, d3] }
  | _ => none }
def factsMatchesBytesRow : OpenClaim := { program := "ytfpkibfofainaaa", sum := "0f66a03f9f4d7f4010052486020e83a4c3e4918aaa2f89cfe293cfc01b825272", func := "asof/asoflaw13.FactsMatchesBytes", spec := "factsMatchesBytes", inPlace := ["internal/bytealg.IndexByteString", "internal/bytealg.IndexString"], unfollowed := true, recurses := true, named := ["internal/bytealg.MaxLen"], apart := false }
def FactsMatchesBytesSaid : Prop := factsMatchesBytesRow.holds Try.pinned (OpenSpec.ofChange factsMatchesBytesSpec)

/-- ITS FALSE NEIGHBOUR: 'it returns false'. Refute it at one input. -/
def factsMatchesBytesWrong : ChangeSpec := { name := "factsMatchesBytes", fn := fun _ => fun
  | [d1, d2, d3] => { results := [.lit (.bool false)], args := [d1, d2, d3] }
  | _ => none }
def FactsMatchesBytesWrongFalsely : Prop := factsMatchesBytesRow.holds Try.pinned (OpenSpec.ofChange factsMatchesBytesWrong)

/- THE SECOND FORM. 'bulk': how many values and letters a reading holds, each counted each time it is reached (what is shared counts as often as it is met; a slice's spare places count too). A statement '..UptoSaid' is the law's where the arguments, and the package variables that the reading takes, are together of bulk at most 1048576: NARROWER than '..Said'. Prove '..Said' where nothing that the law and all that it calls make is longer than what came in: it says more and counts as full. Else prove '..UptoSaid'. A law counts once. -/
mutual
def uptoBulk {H : Type} : DataW H → Nat
  | .lit (.string bytes) => bytes.length + 1
  | .lit _ => 1
  | .nil => 1
  | .ptr d => uptoBulk d + 1
  | .slice elems spare => uptoBulkAll elems + uptoBulkAll spare + 1
  | .agg parts => uptoBulkAll parts + 1
  | .iface _ d => uptoBulk d + 1
  | .map entries => uptoBulkEntries entries + 1
  | .held _ => 1
def uptoBulkAll {H : Type} : List (DataW H) → Nat
  | [] => 0
  | d :: r => uptoBulk d + uptoBulkAll r
def uptoBulkEntries {H : Type} : List (Lit × DataW H) → Nat
  | [] => 0
  | x :: r => uptoBulkEntry x + uptoBulkEntries r
def uptoBulkEntry {H : Type} : Lit × DataW H → Nat
  | (.string bytes, d) => bytes.length + uptoBulk d + 1
  | (_, d) => uptoBulk d + 1
 end
def uptoSmall : (H : Type) → List (DataW H) → Bool := fun _ ds => decide (uptoBulkAll ds ≤ 1048576)
def OpenSpec.upto (s : _root_.Go.ChangeSpec) : _root_.Go.OpenSpec := { _root_.Go.OpenSpec.ofChange s with cond := some uptoSmall }

/-- 'asoflaw13.FactsReadBack', WHERE WHAT IT READS IS OF BULK AT MOST 1048576: true; the input reads as it did. -/
def factsReadBackUptoRow : OpenClaim := { program := "ytfpkibfofainaaa", sum := "0f66a03f9f4d7f4010052486020e83a4c3e4918aaa2f89cfe293cfc01b825272", func := "asof/asoflaw13.FactsReadBack", spec := "factsReadBack", inPlace := ["internal/bytealg.IndexByteString", "internal/bytealg.IndexString"], unfollowed := true, recurses := true, named := ["internal/bytealg.MaxLen"], apart := false, narrowed := true }
def FactsReadBackUptoSaid : Prop := factsReadBackUptoRow.holds Try.pinned (OpenSpec.upto factsReadBackSpec)

/-- 'asoflaw13.FactsStreams', WHERE WHAT IT READS IS OF BULK AT MOST 1048576: true; the input reads as it did. -/
def factsStreamsUptoRow : OpenClaim := { program := "ytfpkibfofainaaa", sum := "0f66a03f9f4d7f4010052486020e83a4c3e4918aaa2f89cfe293cfc01b825272", func := "asof/asoflaw13.FactsStreams", spec := "factsStreams", inPlace := ["internal/bytealg.IndexByteString", "internal/bytealg.IndexString"], unfollowed := true, recurses := true, named := ["internal/bytealg.MaxLen"], apart := false, narrowed := true }
def FactsStreamsUptoSaid : Prop := factsStreamsUptoRow.holds Try.pinned (OpenSpec.upto factsStreamsSpec)

/-- 'asoflaw13.FactsBases', WHERE WHAT IT READS IS OF BULK AT MOST 1048576: true; the input reads as it did. -/
def factsBasesUptoRow : OpenClaim := { program := "ytfpkibfofainaaa", sum := "0f66a03f9f4d7f4010052486020e83a4c3e4918aaa2f89cfe293cfc01b825272", func := "asof/asoflaw13.FactsBases", spec := "factsBases", inPlace := ["internal/bytealg.IndexByteString", "internal/bytealg.IndexString"], named := ["internal/bytealg.MaxLen"], loops := true, apart := false, narrowed := true }
def FactsBasesUptoSaid : Prop := factsBasesUptoRow.holds Try.pinned (OpenSpec.upto factsBasesSpec)

/-- 'asoflaw13.FactsTables', WHERE WHAT IT READS IS OF BULK AT MOST 1048576: true; the input reads as it did. -/
def factsTablesUptoRow : OpenClaim := { program := "ytfpkibfofainaaa", sum := "0f66a03f9f4d7f4010052486020e83a4c3e4918aaa2f89cfe293cfc01b825272", func := "asof/asoflaw13.FactsTables", spec := "factsTables", inPlace := ["internal/bytealg.IndexByteString", "internal/bytealg.IndexString"], named := ["internal/bytealg.MaxLen"], loops := true, apart := false, narrowed := true }
def FactsTablesUptoSaid : Prop := factsTablesUptoRow.holds Try.pinned (OpenSpec.upto factsTablesSpec)

/-- 'asoflaw13.FactsFields', WHERE WHAT IT READS IS OF BULK AT MOST 1048576: true; the input reads as it did. -/
def factsFieldsUptoRow : OpenClaim := { program := "ytfpkibfofainaaa", sum := "0f66a03f9f4d7f4010052486020e83a4c3e4918aaa2f89cfe293cfc01b825272", func := "asof/asoflaw13.FactsFields", spec := "factsFields", inPlace := ["internal/bytealg.IndexByteString", "internal/bytealg.IndexString"], named := ["internal/bytealg.MaxLen"], loops := true, apart := false, narrowed := true }
def FactsFieldsUptoSaid : Prop := factsFieldsUptoRow.holds Try.pinned (OpenSpec.upto factsFieldsSpec)

/-- 'asoflaw13.FactsMatchesCheck', WHERE WHAT IT READS IS OF BULK AT MOST 1048576: true; the input reads as it did. -/
def factsMatchesCheckUptoRow : OpenClaim := { program := "ytfpkibfofainaaa", sum := "0f66a03f9f4d7f4010052486020e83a4c3e4918aaa2f89cfe293cfc01b825272", func := "asof/asoflaw13.FactsMatchesCheck", spec := "factsMatchesCheck", inPlace := ["internal/bytealg.IndexByteString", "internal/bytealg.IndexString"], named := ["internal/bytealg.MaxLen"], loops := true, apart := false, narrowed := true }
def FactsMatchesCheckUptoSaid : Prop := factsMatchesCheckUptoRow.holds Try.pinned (OpenSpec.upto factsMatchesCheckSpec)

/-- 'asoflaw13.FactsMatchesOrder', WHERE WHAT IT READS IS OF BULK AT MOST 1048576: true; the input reads as it did. -/
def factsMatchesOrderUptoRow : OpenClaim := { program := "ytfpkibfofainaaa", sum := "0f66a03f9f4d7f4010052486020e83a4c3e4918aaa2f89cfe293cfc01b825272", func := "asof/asoflaw13.FactsMatchesOrder", spec := "factsMatchesOrder", inPlace := ["internal/bytealg.IndexByteString", "internal/bytealg.IndexString"], named := ["internal/bytealg.MaxLen"], apart := false, narrowed := true }
def FactsMatchesOrderUptoSaid : Prop := factsMatchesOrderUptoRow.holds Try.pinned (OpenSpec.upto factsMatchesOrderSpec)

/-- 'asoflaw13.FactsOrders', WHERE WHAT IT READS IS OF BULK AT MOST 1048576: true; the input reads as it did. -/
def factsOrdersUptoRow : OpenClaim := { program := "ytfpkibfofainaaa", sum := "0f66a03f9f4d7f4010052486020e83a4c3e4918aaa2f89cfe293cfc01b825272", func := "asof/asoflaw13.FactsOrders", spec := "factsOrders", inPlace := ["internal/bytealg.IndexByteString", "internal/bytealg.IndexString"], named := ["internal/bytealg.MaxLen"], apart := false, narrowed := true }
def FactsOrdersUptoSaid : Prop := factsOrdersUptoRow.holds Try.pinned (OpenSpec.upto factsOrdersSpec)

/-- 'asoflaw13.FactsDiffer', WHERE WHAT IT READS IS OF BULK AT MOST 1048576: true; the input reads as it did. -/
def factsDifferUptoRow : OpenClaim := { program := "ytfpkibfofainaaa", sum := "0f66a03f9f4d7f4010052486020e83a4c3e4918aaa2f89cfe293cfc01b825272", func := "asof/asoflaw13.FactsDiffer", spec := "factsDiffer", inPlace := ["internal/bytealg.IndexByteString", "internal/bytealg.IndexString"], unfollowed := true, recurses := true, named := ["internal/bytealg.MaxLen"], apart := false, narrowed := true }
def FactsDifferUptoSaid : Prop := factsDifferUptoRow.holds Try.pinned (OpenSpec.upto factsDifferSpec)

/-- 'asoflaw13.FactsMatchesBytes', WHERE WHAT IT READS IS OF BULK AT MOST 1048576: true; the input reads as it did. -/
def factsMatchesBytesUptoRow : OpenClaim := { program := "ytfpkibfofainaaa", sum := "0f66a03f9f4d7f4010052486020e83a4c3e4918aaa2f89cfe293cfc01b825272", func := "asof/asoflaw13.FactsMatchesBytes", spec := "factsMatchesBytes", inPlace := ["internal/bytealg.IndexByteString", "internal/bytealg.IndexString"], unfollowed := true, recurses := true, named := ["internal/bytealg.MaxLen"], apart := false, narrowed := true }
def FactsMatchesBytesUptoSaid : Prop := factsMatchesBytesUptoRow.holds Try.pinned (OpenSpec.upto factsMatchesBytesSpec)

end Rows
end Go.Proofs.Ytfpkibfofainaaa
