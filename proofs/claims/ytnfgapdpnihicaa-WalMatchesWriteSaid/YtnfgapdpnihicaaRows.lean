/-
  No cell of these rows narrows 'for every input' (looked for: loops, veiled, ifaces, maps, wideKeys, modest, calm, conditions, laid).
  DERIVED. THE GIVEN ROWS OF THIS SEAT. 9 by the template 'for every input the law returns true; each argument reads behind the call as it read before'; 0 by the template 'total and deterministic' (their statements: YtnfgapdpnihicaaTotals.lean).
  GIVEN WITH THE SEED: the statements are not yours to turn. If you find one false, say at which input.
  Laid BY PROGRAM, IN A SANDBOX (cutbox-rows.mjs): the forced cells as the released guide's own fill.sh prints them over the translation 319c9ced100a3400… (all of the seat's roots in one cut). By AI agents, Wed Nov 11 2026. No macro, syntax, notation, axiom, sorry.
-/
import Derived.Test.YtnfgapdpnihicaaChecked
import GoSem.Claim
import GoSem.ClaimJoined
import GoSem.ClaimMapViews
import Derived.JoinedTies
import Derived.KernelRfl
namespace Go.Proofs.Ytnfgapdpnihicaa
/- THE CELL 'sum', in the pinned program and in every row, IS THE sha256 OF THE DUMP (.gsa) THAT YtnfgapdpnihicaaProg.lean LOADS. Nothing in Lean hashes anything: it is a label: what it is worth is what the hold of that sum in a sandbox is worth. -/
noncomputable def Try.pinned : Pinned := { name := "ytnfgapdpnihicaa", sum := "319c9ced100a34000135187be5b4f88b0a9ab5a4120c00d967e85ca4a308b114", checked := Try.checked }
namespace Rows
def none {H : Type} : Left H := { results := [], args := [] }

/-- 'asoflaw31.WalMatchesRead': WHATEVER THE INPUT: true; the input reads as it did. -/
def walMatchesReadSpec : ChangeSpec := { name := "walMatchesRead", fn := fun _ => fun
  | [d1, d2, d3] => { results := [.lit (.bool true)], args := [d1, d2, d3] }
  | _ => none }
def walMatchesReadRow : OpenClaim := { program := "ytnfgapdpnihicaa", sum := "319c9ced100a34000135187be5b4f88b0a9ab5a4120c00d967e85ca4a308b114", func := "asof/asoflaw31.WalMatchesRead", spec := "walMatchesRead", unfollowed := true, recurses := true, apart := false }
def WalMatchesReadSaid : Prop := walMatchesReadRow.holds Try.pinned (OpenSpec.ofChange walMatchesReadSpec)

/-- ITS FALSE NEIGHBOUR: 'it returns false'. Refute it at one input. -/
def walMatchesReadWrong : ChangeSpec := { name := "walMatchesRead", fn := fun _ => fun
  | [d1, d2, d3] => { results := [.lit (.bool false)], args := [d1, d2, d3] }
  | _ => none }
def WalMatchesReadWrongFalsely : Prop := walMatchesReadRow.holds Try.pinned (OpenSpec.ofChange walMatchesReadWrong)

/-- 'asoflaw31.WalMatchesWrite': WHATEVER THE INPUT: true; the input reads as it did. -/
def walMatchesWriteSpec : ChangeSpec := { name := "walMatchesWrite", fn := fun _ => fun
  | [d1, d2, d3, d4] => { results := [.lit (.bool true)], args := [d1, d2, d3, d4] }
  | _ => none }
def walMatchesWriteRow : OpenClaim := { program := "ytnfgapdpnihicaa", sum := "319c9ced100a34000135187be5b4f88b0a9ab5a4120c00d967e85ca4a308b114", func := "asof/asoflaw31.WalMatchesWrite", spec := "walMatchesWrite", unfollowed := true, recurses := true, apart := false }
def WalMatchesWriteSaid : Prop := walMatchesWriteRow.holds Try.pinned (OpenSpec.ofChange walMatchesWriteSpec)

/-- ITS FALSE NEIGHBOUR: 'it returns false'. Refute it at one input. -/
def walMatchesWriteWrong : ChangeSpec := { name := "walMatchesWrite", fn := fun _ => fun
  | [d1, d2, d3, d4] => { results := [.lit (.bool false)], args := [d1, d2, d3, d4] }
  | _ => none }
def WalMatchesWriteWrongFalsely : Prop := walMatchesWriteRow.holds Try.pinned (OpenSpec.ofChange walMatchesWriteWrong)

/-- 'asoflaw31.WalAppends': WHATEVER THE INPUT: true; the input reads as it did. -/
def walAppendsSpec : ChangeSpec := { name := "walAppends", fn := fun _ => fun
  | [d1, d2, d3, d4] => { results := [.lit (.bool true)], args := [d1, d2, d3, d4] }
  | _ => none }
def walAppendsRow : OpenClaim := { program := "ytnfgapdpnihicaa", sum := "319c9ced100a34000135187be5b4f88b0a9ab5a4120c00d967e85ca4a308b114", func := "asof/asoflaw31.WalAppends", spec := "walAppends", unfollowed := true, recurses := true, apart := false }
def WalAppendsSaid : Prop := walAppendsRow.holds Try.pinned (OpenSpec.ofChange walAppendsSpec)

/-- ITS FALSE NEIGHBOUR: 'it returns false'. Refute it at one input. -/
def walAppendsWrong : ChangeSpec := { name := "walAppends", fn := fun _ => fun
  | [d1, d2, d3, d4] => { results := [.lit (.bool false)], args := [d1, d2, d3, d4] }
  | _ => none }
def WalAppendsWrongFalsely : Prop := walAppendsRow.holds Try.pinned (OpenSpec.ofChange walAppendsWrong)

/-- 'asoflaw31.WalCrashes': WHATEVER THE INPUT: true; the input reads as it did. -/
def walCrashesSpec : ChangeSpec := { name := "walCrashes", fn := fun _ => fun
  | [d1, d2, d3, d4, d5, d6, d7] => { results := [.lit (.bool true)], args := [d1, d2, d3, d4, d5, d6, d7] }
  | _ => none }
def walCrashesRow : OpenClaim := { program := "ytnfgapdpnihicaa", sum := "319c9ced100a34000135187be5b4f88b0a9ab5a4120c00d967e85ca4a308b114", func := "asof/asoflaw31.WalCrashes", spec := "walCrashes", unfollowed := true, recurses := true, apart := false }
def WalCrashesSaid : Prop := walCrashesRow.holds Try.pinned (OpenSpec.ofChange walCrashesSpec)

/-- ITS FALSE NEIGHBOUR: 'it returns false'. Refute it at one input. -/
def walCrashesWrong : ChangeSpec := { name := "walCrashes", fn := fun _ => fun
  | [d1, d2, d3, d4, d5, d6, d7] => { results := [.lit (.bool false)], args := [d1, d2, d3, d4, d5, d6, d7] }
  | _ => none }
def WalCrashesWrongFalsely : Prop := walCrashesRow.holds Try.pinned (OpenSpec.ofChange walCrashesWrong)

/-- 'asoflaw31.WalRetries': WHATEVER THE INPUT: true; the input reads as it did. -/
def walRetriesSpec : ChangeSpec := { name := "walRetries", fn := fun _ => fun
  | [d1, d2] => { results := [.lit (.bool true)], args := [d1, d2] }
  | _ => none }
def walRetriesRow : OpenClaim := { program := "ytnfgapdpnihicaa", sum := "319c9ced100a34000135187be5b4f88b0a9ab5a4120c00d967e85ca4a308b114", func := "asof/asoflaw31.WalRetries", spec := "walRetries", unfollowed := true, recurses := true, apart := false }
def WalRetriesSaid : Prop := walRetriesRow.holds Try.pinned (OpenSpec.ofChange walRetriesSpec)

/-- ITS FALSE NEIGHBOUR: 'it returns false'. Refute it at one input. -/
def walRetriesWrong : ChangeSpec := { name := "walRetries", fn := fun _ => fun
  | [d1, d2] => { results := [.lit (.bool false)], args := [d1, d2] }
  | _ => none }
def WalRetriesWrongFalsely : Prop := walRetriesRow.holds Try.pinned (OpenSpec.ofChange walRetriesWrong)

/-- 'asoflaw31.WalDamage': WHATEVER THE INPUT: true; the input reads as it did. -/
def walDamageSpec : ChangeSpec := { name := "walDamage", fn := fun _ => fun
  | [d1, d2, d3] => { results := [.lit (.bool true)], args := [d1, d2, d3] }
  | _ => none }
def walDamageRow : OpenClaim := { program := "ytnfgapdpnihicaa", sum := "319c9ced100a34000135187be5b4f88b0a9ab5a4120c00d967e85ca4a308b114", func := "asof/asoflaw31.WalDamage", spec := "walDamage", unfollowed := true, recurses := true, apart := false }
def WalDamageSaid : Prop := walDamageRow.holds Try.pinned (OpenSpec.ofChange walDamageSpec)

/-- ITS FALSE NEIGHBOUR: 'it returns false'. Refute it at one input. -/
def walDamageWrong : ChangeSpec := { name := "walDamage", fn := fun _ => fun
  | [d1, d2, d3] => { results := [.lit (.bool false)], args := [d1, d2, d3] }
  | _ => none }
def WalDamageWrongFalsely : Prop := walDamageRow.holds Try.pinned (OpenSpec.ofChange walDamageWrong)

/-- 'asoflaw31.WalBatches': WHATEVER THE INPUT: true; the input reads as it did. -/
def walBatchesSpec : ChangeSpec := { name := "walBatches", fn := fun _ => fun
  | [d1, d2] => { results := [.lit (.bool true)], args := [d1, d2] }
  | _ => none }
def walBatchesRow : OpenClaim := { program := "ytnfgapdpnihicaa", sum := "319c9ced100a34000135187be5b4f88b0a9ab5a4120c00d967e85ca4a308b114", func := "asof/asoflaw31.WalBatches", spec := "walBatches", unfollowed := true, recurses := true, apart := false }
def WalBatchesSaid : Prop := walBatchesRow.holds Try.pinned (OpenSpec.ofChange walBatchesSpec)

/-- ITS FALSE NEIGHBOUR: 'it returns false'. Refute it at one input. -/
def walBatchesWrong : ChangeSpec := { name := "walBatches", fn := fun _ => fun
  | [d1, d2] => { results := [.lit (.bool false)], args := [d1, d2] }
  | _ => none }
def WalBatchesWrongFalsely : Prop := walBatchesRow.holds Try.pinned (OpenSpec.ofChange walBatchesWrong)

/-- 'asoflaw31.WalRegions': WHATEVER THE INPUT: true; the input reads as it did. -/
def walRegionsSpec : ChangeSpec := { name := "walRegions", fn := fun _ => fun
  | [d1, d2] => { results := [.lit (.bool true)], args := [d1, d2] }
  | _ => none }
def walRegionsRow : OpenClaim := { program := "ytnfgapdpnihicaa", sum := "319c9ced100a34000135187be5b4f88b0a9ab5a4120c00d967e85ca4a308b114", func := "asof/asoflaw31.WalRegions", spec := "walRegions", unfollowed := true, recurses := true, apart := false }
def WalRegionsSaid : Prop := walRegionsRow.holds Try.pinned (OpenSpec.ofChange walRegionsSpec)

/-- ITS FALSE NEIGHBOUR: 'it returns false'. Refute it at one input. -/
def walRegionsWrong : ChangeSpec := { name := "walRegions", fn := fun _ => fun
  | [d1, d2] => { results := [.lit (.bool false)], args := [d1, d2] }
  | _ => none }
def WalRegionsWrongFalsely : Prop := walRegionsRow.holds Try.pinned (OpenSpec.ofChange walRegionsWrong)

/-- 'asoflaw31.WalLayout': WHATEVER THE INPUT: true; the input reads as it did. -/
def walLayoutSpec : ChangeSpec := { name := "walLayout", fn := fun _ => fun
  | [d] => { results := [.lit (.bool true)], args := [d] }
  | _ => none }
def walLayoutRow : OpenClaim := { program := "ytnfgapdpnihicaa", sum := "319c9ced100a34000135187be5b4f88b0a9ab5a4120c00d967e85ca4a308b114", func := "asof/asoflaw31.WalLayout", spec := "walLayout", unfollowed := true, recurses := true, apart := false }
def WalLayoutSaid : Prop := walLayoutRow.holds Try.pinned (OpenSpec.ofChange walLayoutSpec)

/-- ITS FALSE NEIGHBOUR: 'it returns false'. Refute it at one input. -/
def walLayoutWrong : ChangeSpec := { name := "walLayout", fn := fun _ => fun
  | [d] => { results := [.lit (.bool false)], args := [d] }
  | _ => none }
def WalLayoutWrongFalsely : Prop := walLayoutRow.holds Try.pinned (OpenSpec.ofChange walLayoutWrong)

/- THE SECOND FORM. 'bulk': how many values and letters a reading holds, each counted each time it is reached (what is shared counts as often as it is met; a slice's spare places count too). A statement '..UptoSaid' is the law's where the arguments, and the package variables that the reading takes, are together of bulk at most 1048576: NARROWER than '..Said'. Prove '..Said' where nothing that the law and all that it calls make is longer than what came in: it says more and counts as full. Else prove '..UptoSaid'. A law counts once. -/
mutual
def uptoBulk {H : Type} : DataW H → Nat
  | .lit (.string bytes) => bytes.length + 1
  | .lit _ => 1
  | .nil => 1
  | .ptr d => uptoBulk d + 1
  | .slice elems spare => uptoBulkAll elems + uptoBulkAll spare + 1
  | .agg parts => uptoBulkAll parts + 1
  | .iface _ d => uptoBulk d + 1
  | .map entries => uptoBulkEntries entries + 1
  | .held _ => 1
def uptoBulkAll {H : Type} : List (DataW H) → Nat
  | [] => 0
  | d :: r => uptoBulk d + uptoBulkAll r
def uptoBulkEntries {H : Type} : List (Lit × DataW H) → Nat
  | [] => 0
  | x :: r => uptoBulkEntry x + uptoBulkEntries r
def uptoBulkEntry {H : Type} : Lit × DataW H → Nat
  | (.string bytes, d) => bytes.length + uptoBulk d + 1
  | (_, d) => uptoBulk d + 1
 end
def uptoSmall : (H : Type) → List (DataW H) → Bool := fun _ ds => decide (uptoBulkAll ds ≤ 1048576)
def OpenSpec.upto (s : _root_.Go.ChangeSpec) : _root_.Go.OpenSpec := { _root_.Go.OpenSpec.ofChange s with cond := some uptoSmall }

/-- 'asoflaw31.WalMatchesRead', WHERE WHAT IT READS IS OF BULK AT MOST 1048576: true; the input reads as it did. -/
def walMatchesReadUptoRow : OpenClaim := { program := "ytnfgapdpnihicaa", sum := "319c9ced100a34000135187be5b4f88b0a9ab5a4120c00d967e85ca4a308b114", func := "asof/asoflaw31.WalMatchesRead", spec := "walMatchesRead", unfollowed := true, recurses := true, apart := false, narrowed := true }
def WalMatchesReadUptoSaid : Prop := walMatchesReadUptoRow.holds Try.pinned (OpenSpec.upto walMatchesReadSpec)

/-- 'asoflaw31.WalMatchesWrite', WHERE WHAT IT READS IS OF BULK AT MOST 1048576: true; the input reads as it did. -/
def walMatchesWriteUptoRow : OpenClaim := { program := "ytnfgapdpnihicaa", sum := "319c9ced100a34000135187be5b4f88b0a9ab5a4120c00d967e85ca4a308b114", func := "asof/asoflaw31.WalMatchesWrite", spec := "walMatchesWrite", unfollowed := true, recurses := true, apart := false, narrowed := true }
def WalMatchesWriteUptoSaid : Prop := walMatchesWriteUptoRow.holds Try.pinned (OpenSpec.upto walMatchesWriteSpec)

/-- 'asoflaw31.WalAppends', WHERE WHAT IT READS IS OF BULK AT MOST 1048576: true; the input reads as it did. -/
def walAppendsUptoRow : OpenClaim := { program := "ytnfgapdpnihicaa", sum := "319c9ced100a34000135187be5b4f88b0a9ab5a4120c00d967e85ca4a308b114", func := "asof/asoflaw31.WalAppends", spec := "walAppends", unfollowed := true, recurses := true, apart := false, narrowed := true }
def WalAppendsUptoSaid : Prop := walAppendsUptoRow.holds Try.pinned (OpenSpec.upto walAppendsSpec)

/-- 'asoflaw31.WalCrashes', WHERE WHAT IT READS IS OF BULK AT MOST 1048576: true; the input reads as it did. -/
def walCrashesUptoRow : OpenClaim := { program := "ytnfgapdpnihicaa", sum := "319c9ced100a34000135187be5b4f88b0a9ab5a4120c00d967e85ca4a308b114", func := "asof/asoflaw31.WalCrashes", spec := "walCrashes", unfollowed := true, recurses := true, apart := false, narrowed := true }
def WalCrashesUptoSaid : Prop := walCrashesUptoRow.holds Try.pinned (OpenSpec.upto walCrashesSpec)

/-- 'asoflaw31.WalRetries', WHERE WHAT IT READS IS OF BULK AT MOST 1048576: true; the input reads as it did. -/
def walRetriesUptoRow : OpenClaim := { program := "ytnfgapdpnihicaa", sum := "319c9ced100a34000135187be5b4f88b0a9ab5a4120c00d967e85ca4a308b114", func := "asof/asoflaw31.WalRetries", spec := "walRetries", unfollowed := true, recurses := true, apart := false, narrowed := true }
def WalRetriesUptoSaid : Prop := walRetriesUptoRow.holds Try.pinned (OpenSpec.upto walRetriesSpec)

/-- 'asoflaw31.WalDamage', WHERE WHAT IT READS IS OF BULK AT MOST 1048576: true; the input reads as it did. -/
def walDamageUptoRow : OpenClaim := { program := "ytnfgapdpnihicaa", sum := "319c9ced100a34000135187be5b4f88b0a9ab5a4120c00d967e85ca4a308b114", func := "asof/asoflaw31.WalDamage", spec := "walDamage", unfollowed := true, recurses := true, apart := false, narrowed := true }
def WalDamageUptoSaid : Prop := walDamageUptoRow.holds Try.pinned (OpenSpec.upto walDamageSpec)

/-- 'asoflaw31.WalBatches', WHERE WHAT IT READS IS OF BULK AT MOST 1048576: true; the input reads as it did. -/
def walBatchesUptoRow : OpenClaim := { program := "ytnfgapdpnihicaa", sum := "319c9ced100a34000135187be5b4f88b0a9ab5a4120c00d967e85ca4a308b114", func := "asof/asoflaw31.WalBatches", spec := "walBatches", unfollowed := true, recurses := true, apart := false, narrowed := true }
def WalBatchesUptoSaid : Prop := walBatchesUptoRow.holds Try.pinned (OpenSpec.upto walBatchesSpec)

/-- 'asoflaw31.WalRegions', WHERE WHAT IT READS IS OF BULK AT MOST 1048576: true; the input reads as it did. -/
def walRegionsUptoRow : OpenClaim := { program := "ytnfgapdpnihicaa", sum := "319c9ced100a34000135187be5b4f88b0a9ab5a4120c00d967e85ca4a308b114", func := "asof/asoflaw31.WalRegions", spec := "walRegions", unfollowed := true, recurses := true, apart := false, narrowed := true }
def WalRegionsUptoSaid : Prop := walRegionsUptoRow.holds Try.pinned (OpenSpec.upto walRegionsSpec)

/-- 'asoflaw31.WalLayout', WHERE WHAT IT READS IS OF BULK AT MOST 1048576: true; the input reads as it did. -/
def walLayoutUptoRow : OpenClaim := { program := "ytnfgapdpnihicaa", sum := "319c9ced100a34000135187be5b4f88b0a9ab5a4120c00d967e85ca4a308b114", func := "asof/asoflaw31.WalLayout", spec := "walLayout", unfollowed := true, recurses := true, apart := false, narrowed := true }
def WalLayoutUptoSaid : Prop := walLayoutUptoRow.holds Try.pinned (OpenSpec.upto walLayoutSpec)

end Rows
end Go.Proofs.Ytnfgapdpnihicaa
