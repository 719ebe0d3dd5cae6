/-
  No cell of these rows narrows 'for every input' (looked for: loops, veiled, ifaces, maps, wideKeys, modest, calm, conditions, laid).
  DERIVED. THE GIVEN ROWS OF THIS SEAT. 9 by the template 'for every input the law returns true; each argument reads behind the call as it read before'; 0 by the template 'total and deterministic' (their statements: YtblfpkhgnfjbbaaTotals.lean).
  GIVEN WITH THE SEED: the statements are not yours to turn. If you find one false, say at which input.
  Laid BY PROGRAM, IN A SANDBOX (cutbox-rows.mjs): the forced cells as the released guide's own fill.sh prints them over the translation 542ac9ff8a95f7bc… (all of the seat's roots in one cut). By AI agents, Wed Nov 11 2026. No macro, syntax, notation, axiom, sorry.
-/
import Derived.Test.YtblfpkhgnfjbbaaChecked
import GoSem.Claim
import GoSem.ClaimJoined
import GoSem.ClaimMapViews
import Derived.JoinedTies
import Derived.KernelRfl
namespace Go.Proofs.Ytblfpkhgnfjbbaa
/- THE CELL 'sum', in the pinned program and in every row, IS THE sha256 OF THE DUMP (.gsa) THAT YtblfpkhgnfjbbaaProg.lean LOADS. Nothing in Lean hashes anything: it is a label: what it is worth is what the hold of that sum in a sandbox is worth. -/
noncomputable def Try.pinned : Pinned := { name := "ytblfpkhgnfjbbaa", sum := "542ac9ff8a95f7bcb1c0e733a7bc813f5a8929b28751d4df028e2e0dca1e36eb", checked := Try.checked }
namespace Rows
def none {H : Type} : Left H := { results := [], args := [] }

/-- 'asoflaw04.WireMatchesAppend': WHATEVER THE INPUT: true; the input reads as it did. -/
def wireMatchesAppendSpec : ChangeSpec := { name := "wireMatchesAppend", fn := fun _ => fun
  | [d1, d2, d3, d4, d5] => { results := [.lit (.bool true)], args := [d1, d2, d3, d4, d5] }
  | _ => none }
def wireMatchesAppendRow : OpenClaim := { program := "ytblfpkhgnfjbbaa", sum := "542ac9ff8a95f7bcb1c0e733a7bc813f5a8929b28751d4df028e2e0dca1e36eb", func := "asof/asoflaw04.WireMatchesAppend", spec := "wireMatchesAppend", unfollowed := true, recurses := true, apart := false }
def WireMatchesAppendSaid : Prop := wireMatchesAppendRow.holds Try.pinned (OpenSpec.ofChange wireMatchesAppendSpec)

/-- ITS FALSE NEIGHBOUR: 'it returns false'. Refute it at one input. -/
def wireMatchesAppendWrong : ChangeSpec := { name := "wireMatchesAppend", fn := fun _ => fun
  | [d1, d2, d3, d4, d5] => { results := [.lit (.bool false)], args := [d1, d2, d3, d4, d5] }
  | _ => none }
def WireMatchesAppendWrongFalsely : Prop := wireMatchesAppendRow.holds Try.pinned (OpenSpec.ofChange wireMatchesAppendWrong)

/-- 'asoflaw04.WireFrames': WHATEVER THE INPUT: true; the input reads as it did. -/
def wireFramesSpec : ChangeSpec := { name := "wireFrames", fn := fun _ => fun
  | [d] => { results := [.lit (.bool true)], args := [d] }
  | _ => none }
def wireFramesRow : OpenClaim := { program := "ytblfpkhgnfjbbaa", sum := "542ac9ff8a95f7bcb1c0e733a7bc813f5a8929b28751d4df028e2e0dca1e36eb", func := "asof/asoflaw04.WireFrames", spec := "wireFrames", unfollowed := true, recurses := true, apart := false }
def WireFramesSaid : Prop := wireFramesRow.holds Try.pinned (OpenSpec.ofChange wireFramesSpec)

/-- ITS FALSE NEIGHBOUR: 'it returns false'. Refute it at one input. -/
def wireFramesWrong : ChangeSpec := { name := "wireFrames", fn := fun _ => fun
  | [d] => { results := [.lit (.bool false)], args := [d] }
  | _ => none }
def WireFramesWrongFalsely : Prop := wireFramesRow.holds Try.pinned (OpenSpec.ofChange wireFramesWrong)

/-- 'asoflaw04.WireBeginnings': WHATEVER THE INPUT: true; the input reads as it did. -/
def wireBeginningsSpec : ChangeSpec := { name := "wireBeginnings", fn := fun _ => fun
  | [d1, d2, d3, d4, d5] => { results := [.lit (.bool true)], args := [d1, d2, d3, d4, d5] }
  | _ => none }
def wireBeginningsRow : OpenClaim := { program := "ytblfpkhgnfjbbaa", sum := "542ac9ff8a95f7bcb1c0e733a7bc813f5a8929b28751d4df028e2e0dca1e36eb", func := "asof/asoflaw04.WireBeginnings", spec := "wireBeginnings", unfollowed := true, recurses := true, apart := false }
def WireBeginningsSaid : Prop := wireBeginningsRow.holds Try.pinned (OpenSpec.ofChange wireBeginningsSpec)

/-- ITS FALSE NEIGHBOUR: 'it returns false'. Refute it at one input. -/
def wireBeginningsWrong : ChangeSpec := { name := "wireBeginnings", fn := fun _ => fun
  | [d1, d2, d3, d4, d5] => { results := [.lit (.bool false)], args := [d1, d2, d3, d4, d5] }
  | _ => none }
def WireBeginningsWrongFalsely : Prop := wireBeginningsRow.holds Try.pinned (OpenSpec.ofChange wireBeginningsWrong)

/-- 'asoflaw04.WireLengths': WHATEVER THE INPUT: true; the input reads as it did. -/
def wireLengthsSpec : ChangeSpec := { name := "wireLengths", fn := fun _ => fun
  | [d1, d2, d3] => { results := [.lit (.bool true)], args := [d1, d2, d3] }
  | _ => none }
def wireLengthsRow : OpenClaim := { program := "ytblfpkhgnfjbbaa", sum := "542ac9ff8a95f7bcb1c0e733a7bc813f5a8929b28751d4df028e2e0dca1e36eb", func := "asof/asoflaw04.WireLengths", spec := "wireLengths", unfollowed := true, recurses := true, apart := false }
def WireLengthsSaid : Prop := wireLengthsRow.holds Try.pinned (OpenSpec.ofChange wireLengthsSpec)

/-- ITS FALSE NEIGHBOUR: 'it returns false'. Refute it at one input. -/
def wireLengthsWrong : ChangeSpec := { name := "wireLengths", fn := fun _ => fun
  | [d1, d2, d3] => { results := [.lit (.bool false)], args := [d1, d2, d3] }
  | _ => none }
def WireLengthsWrongFalsely : Prop := wireLengthsRow.holds Try.pinned (OpenSpec.ofChange wireLengthsWrong)

/-- 'asoflaw04.WireDamage': WHATEVER THE INPUT: true; the input reads as it did. -/
def wireDamageSpec : ChangeSpec := { name := "wireDamage", fn := fun _ => fun
  | [d1, d2, d3] => { results := [.lit (.bool true)], args := [d1, d2, d3] }
  | _ => none }
def wireDamageRow : OpenClaim := { program := "ytblfpkhgnfjbbaa", sum := "542ac9ff8a95f7bcb1c0e733a7bc813f5a8929b28751d4df028e2e0dca1e36eb", func := "asof/asoflaw04.WireDamage", spec := "wireDamage", unfollowed := true, recurses := true, apart := false }
def WireDamageSaid : Prop := wireDamageRow.holds Try.pinned (OpenSpec.ofChange wireDamageSpec)

/-- ITS FALSE NEIGHBOUR: 'it returns false'. Refute it at one input. -/
def wireDamageWrong : ChangeSpec := { name := "wireDamage", fn := fun _ => fun
  | [d1, d2, d3] => { results := [.lit (.bool false)], args := [d1, d2, d3] }
  | _ => none }
def WireDamageWrongFalsely : Prop := wireDamageRow.holds Try.pinned (OpenSpec.ofChange wireDamageWrong)

/-- 'asoflaw04.WireMatchesRead': WHATEVER THE INPUT: true; the input reads as it did. -/
def wireMatchesReadSpec : ChangeSpec := { name := "wireMatchesRead", fn := fun _ => fun
  | [d1, d2] => { results := [.lit (.bool true)], args := [d1, d2] }
  | _ => none }
def wireMatchesReadRow : OpenClaim := { program := "ytblfpkhgnfjbbaa", sum := "542ac9ff8a95f7bcb1c0e733a7bc813f5a8929b28751d4df028e2e0dca1e36eb", func := "asof/asoflaw04.WireMatchesRead", spec := "wireMatchesRead", unfollowed := true, recurses := true, apart := false }
def WireMatchesReadSaid : Prop := wireMatchesReadRow.holds Try.pinned (OpenSpec.ofChange wireMatchesReadSpec)

/-- ITS FALSE NEIGHBOUR: 'it returns false'. Refute it at one input. -/
def wireMatchesReadWrong : ChangeSpec := { name := "wireMatchesRead", fn := fun _ => fun
  | [d1, d2] => { results := [.lit (.bool false)], args := [d1, d2] }
  | _ => none }
def WireMatchesReadWrongFalsely : Prop := wireMatchesReadRow.holds Try.pinned (OpenSpec.ofChange wireMatchesReadWrong)

/-- 'asoflaw04.WireReadsBack': WHATEVER THE INPUT: true; the input reads as it did. -/
def wireReadsBackSpec : ChangeSpec := { name := "wireReadsBack", fn := fun _ => fun
  | [d1, d2, d3, d4, d5] => { results := [.lit (.bool true)], args := [d1, d2, d3, d4, d5] }
  | _ => none }
def wireReadsBackRow : OpenClaim := { program := "ytblfpkhgnfjbbaa", sum := "542ac9ff8a95f7bcb1c0e733a7bc813f5a8929b28751d4df028e2e0dca1e36eb", func := "asof/asoflaw04.WireReadsBack", spec := "wireReadsBack", unfollowed := true, recurses := true, apart := false }
def WireReadsBackSaid : Prop := wireReadsBackRow.holds Try.pinned (OpenSpec.ofChange wireReadsBackSpec)

/-- ITS FALSE NEIGHBOUR: 'it returns false'. Refute it at one input. -/
def wireReadsBackWrong : ChangeSpec := { name := "wireReadsBack", fn := fun _ => fun
  | [d1, d2, d3, d4, d5] => { results := [.lit (.bool false)], args := [d1, d2, d3, d4, d5] }
  | _ => none }
def WireReadsBackWrongFalsely : Prop := wireReadsBackRow.holds Try.pinned (OpenSpec.ofChange wireReadsBackWrong)

/-- 'asoflaw04.WireOneEncoding': WHATEVER THE INPUT: true; the input reads as it did. -/
def wireOneEncodingSpec : ChangeSpec := { name := "wireOneEncoding", fn := fun _ => fun
  | [d1, d2] => { results := [.lit (.bool true)], args := [d1, d2] }
  | _ => none }
def wireOneEncodingRow : OpenClaim := { program := "ytblfpkhgnfjbbaa", sum := "542ac9ff8a95f7bcb1c0e733a7bc813f5a8929b28751d4df028e2e0dca1e36eb", func := "asof/asoflaw04.WireOneEncoding", spec := "wireOneEncoding", unfollowed := true, recurses := true, apart := false }
def WireOneEncodingSaid : Prop := wireOneEncodingRow.holds Try.pinned (OpenSpec.ofChange wireOneEncodingSpec)

/-- ITS FALSE NEIGHBOUR: 'it returns false'. Refute it at one input. -/
def wireOneEncodingWrong : ChangeSpec := { name := "wireOneEncoding", fn := fun _ => fun
  | [d1, d2] => { results := [.lit (.bool false)], args := [d1, d2] }
  | _ => none }
def WireOneEncodingWrongFalsely : Prop := wireOneEncodingRow.holds Try.pinned (OpenSpec.ofChange wireOneEncodingWrong)

/-- 'asoflaw04.WireApart': WHATEVER THE INPUT: true; the input reads as it did. -/
def wireApartSpec : ChangeSpec := { name := "wireApart", fn := fun _ => fun
  | [d1, d2, d3, d4, d5] => { results := [.lit (.bool true)], args := [d1, d2, d3, d4, d5] }
  | _ => none }
def wireApartRow : OpenClaim := { program := "ytblfpkhgnfjbbaa", sum := "542ac9ff8a95f7bcb1c0e733a7bc813f5a8929b28751d4df028e2e0dca1e36eb", func := "asof/asoflaw04.WireApart", spec := "wireApart", unfollowed := true, recurses := true, apart := false }
def WireApartSaid : Prop := wireApartRow.holds Try.pinned (OpenSpec.ofChange wireApartSpec)

/-- ITS FALSE NEIGHBOUR: 'it returns false'. Refute it at one input. -/
def wireApartWrong : ChangeSpec := { name := "wireApart", fn := fun _ => fun
  | [d1, d2, d3, d4, d5] => { results := [.lit (.bool false)], args := [d1, d2, d3, d4, d5] }
  | _ => none }
def WireApartWrongFalsely : Prop := wireApartRow.holds Try.pinned (OpenSpec.ofChange wireApartWrong)

/- THE SECOND FORM. 'bulk': how many values and letters a reading holds, each counted each time it is reached (what is shared counts as often as it is met; a slice's spare places count too). A statement '..UptoSaid' is the law's where the arguments, and the package variables that the reading takes, are together of bulk at most 1048576: NARROWER than '..Said'. Prove '..Said' where nothing that the law and all that it calls make is longer than what came in: it says more and counts as full. Else prove '..UptoSaid'. A law counts once. -/
mutual
def uptoBulk {H : Type} : DataW H → Nat
  | .lit (.string bytes) => bytes.length + 1
  | .lit _ => 1
  | .nil => 1
  | .ptr d => uptoBulk d + 1
  | .slice elems spare => uptoBulkAll elems + uptoBulkAll spare + 1
  | .agg parts => uptoBulkAll parts + 1
  | .iface _ d => uptoBulk d + 1
  | .map entries => uptoBulkEntries entries + 1
  | .held _ => 1
def uptoBulkAll {H : Type} : List (DataW H) → Nat
  | [] => 0
  | d :: r => uptoBulk d + uptoBulkAll r
def uptoBulkEntries {H : Type} : List (Lit × DataW H) → Nat
  | [] => 0
  | x :: r => uptoBulkEntry x + uptoBulkEntries r
def uptoBulkEntry {H : Type} : Lit × DataW H → Nat
  | (.string bytes, d) => bytes.length + uptoBulk d + 1
  | (_, d) => uptoBulk d + 1
 end
def uptoSmall : (H : Type) → List (DataW H) → Bool := fun _ ds => decide (uptoBulkAll ds ≤ 1048576)
def OpenSpec.upto (s : _root_.Go.ChangeSpec) : _root_.Go.OpenSpec := { _root_.Go.OpenSpec.ofChange s with cond := some uptoSmall }

/-- 'asoflaw04.WireMatchesAppend', WHERE WHAT IT READS IS OF BULK AT MOST 1048576: true; the input reads as it did. -/
def wireMatchesAppendUptoRow : OpenClaim := { program := "ytblfpkhgnfjbbaa", sum := "542ac9ff8a95f7bcb1c0e733a7bc813f5a8929b28751d4df028e2e0dca1e36eb", func := "asof/asoflaw04.WireMatchesAppend", spec := "wireMatchesAppend", unfollowed := true, recurses := true, apart := false, narrowed := true }
def WireMatchesAppendUptoSaid : Prop := wireMatchesAppendUptoRow.holds Try.pinned (OpenSpec.upto wireMatchesAppendSpec)

/-- 'asoflaw04.WireFrames', WHERE WHAT IT READS IS OF BULK AT MOST 1048576: true; the input reads as it did. -/
def wireFramesUptoRow : OpenClaim := { program := "ytblfpkhgnfjbbaa", sum := "542ac9ff8a95f7bcb1c0e733a7bc813f5a8929b28751d4df028e2e0dca1e36eb", func := "asof/asoflaw04.WireFrames", spec := "wireFrames", unfollowed := true, recurses := true, apart := false, narrowed := true }
def WireFramesUptoSaid : Prop := wireFramesUptoRow.holds Try.pinned (OpenSpec.upto wireFramesSpec)

/-- 'asoflaw04.WireBeginnings', WHERE WHAT IT READS IS OF BULK AT MOST 1048576: true; the input reads as it did. -/
def wireBeginningsUptoRow : OpenClaim := { program := "ytblfpkhgnfjbbaa", sum := "542ac9ff8a95f7bcb1c0e733a7bc813f5a8929b28751d4df028e2e0dca1e36eb", func := "asof/asoflaw04.WireBeginnings", spec := "wireBeginnings", unfollowed := true, recurses := true, apart := false, narrowed := true }
def WireBeginningsUptoSaid : Prop := wireBeginningsUptoRow.holds Try.pinned (OpenSpec.upto wireBeginningsSpec)

/-- 'asoflaw04.WireLengths', WHERE WHAT IT READS IS OF BULK AT MOST 1048576: true; the input reads as it did. -/
def wireLengthsUptoRow : OpenClaim := { program := "ytblfpkhgnfjbbaa", sum := "542ac9ff8a95f7bcb1c0e733a7bc813f5a8929b28751d4df028e2e0dca1e36eb", func := "asof/asoflaw04.WireLengths", spec := "wireLengths", unfollowed := true, recurses := true, apart := false, narrowed := true }
def WireLengthsUptoSaid : Prop := wireLengthsUptoRow.holds Try.pinned (OpenSpec.upto wireLengthsSpec)

/-- 'asoflaw04.WireDamage', WHERE WHAT IT READS IS OF BULK AT MOST 1048576: true; the input reads as it did. -/
def wireDamageUptoRow : OpenClaim := { program := "ytblfpkhgnfjbbaa", sum := "542ac9ff8a95f7bcb1c0e733a7bc813f5a8929b28751d4df028e2e0dca1e36eb", func := "asof/asoflaw04.WireDamage", spec := "wireDamage", unfollowed := true, recurses := true, apart := false, narrowed := true }
def WireDamageUptoSaid : Prop := wireDamageUptoRow.holds Try.pinned (OpenSpec.upto wireDamageSpec)

/-- 'asoflaw04.WireMatchesRead', WHERE WHAT IT READS IS OF BULK AT MOST 1048576: true; the input reads as it did. -/
def wireMatchesReadUptoRow : OpenClaim := { program := "ytblfpkhgnfjbbaa", sum := "542ac9ff8a95f7bcb1c0e733a7bc813f5a8929b28751d4df028e2e0dca1e36eb", func := "asof/asoflaw04.WireMatchesRead", spec := "wireMatchesRead", unfollowed := true, recurses := true, apart := false, narrowed := true }
def WireMatchesReadUptoSaid : Prop := wireMatchesReadUptoRow.holds Try.pinned (OpenSpec.upto wireMatchesReadSpec)

/-- 'asoflaw04.WireReadsBack', WHERE WHAT IT READS IS OF BULK AT MOST 1048576: true; the input reads as it did. -/
def wireReadsBackUptoRow : OpenClaim := { program := "ytblfpkhgnfjbbaa", sum := "542ac9ff8a95f7bcb1c0e733a7bc813f5a8929b28751d4df028e2e0dca1e36eb", func := "asof/asoflaw04.WireReadsBack", spec := "wireReadsBack", unfollowed := true, recurses := true, apart := false, narrowed := true }
def WireReadsBackUptoSaid : Prop := wireReadsBackUptoRow.holds Try.pinned (OpenSpec.upto wireReadsBackSpec)

/-- 'asoflaw04.WireOneEncoding', WHERE WHAT IT READS IS OF BULK AT MOST 1048576: true; the input reads as it did. -/
def wireOneEncodingUptoRow : OpenClaim := { program := "ytblfpkhgnfjbbaa", sum := "542ac9ff8a95f7bcb1c0e733a7bc813f5a8929b28751d4df028e2e0dca1e36eb", func := "asof/asoflaw04.WireOneEncoding", spec := "wireOneEncoding", unfollowed := true, recurses := true, apart := false, narrowed := true }
def WireOneEncodingUptoSaid : Prop := wireOneEncodingUptoRow.holds Try.pinned (OpenSpec.upto wireOneEncodingSpec)

/-- 'asoflaw04.WireApart', WHERE WHAT IT READS IS OF BULK AT MOST 1048576: true; the input reads as it did. -/
def wireApartUptoRow : OpenClaim := { program := "ytblfpkhgnfjbbaa", sum := "542ac9ff8a95f7bcb1c0e733a7bc813f5a8929b28751d4df028e2e0dca1e36eb", func := "asof/asoflaw04.WireApart", spec := "wireApart", unfollowed := true, recurses := true, apart := false, narrowed := true }
def WireApartUptoSaid : Prop := wireApartUptoRow.holds Try.pinned (OpenSpec.upto wireApartSpec)

end Rows
end Go.Proofs.Ytblfpkhgnfjbbaa
