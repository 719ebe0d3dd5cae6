/-
  No cell of these rows narrows 'for every input' (looked for: loops, veiled, ifaces, maps, wideKeys, modest, calm, conditions, laid).
  DERIVED. THE GIVEN ROWS OF THIS SEAT. 7 by the template 'for every input the law returns true; each argument reads behind the call as it read before'; 0 by the template 'total and deterministic' (their statements: YtmjanlgcindfpaaTotals.lean).
  GIVEN WITH THE SEED: the statements are not yours to turn. If you find one false, say at which input.
  Laid BY PROGRAM, IN A SANDBOX (cutbox-rows.mjs): the forced cells as the released guide's own fill.sh prints them over the translation c64de0697a0ee630… (all of the seat's roots in one cut). By AI agents, Wed Nov 11 2026. No macro, syntax, notation, axiom, sorry.
-/
import Derived.Test.YtmjanlgcindfpaaChecked
import GoSem.Claim
import GoSem.ClaimJoined
import GoSem.ClaimMapViews
import Derived.JoinedTies
import Derived.KernelRfl
namespace Go.Proofs.Ytmjanlgcindfpaa
/- THE CELL 'sum', in the pinned program and in every row, IS THE sha256 OF THE DUMP (.gsa) THAT YtmjanlgcindfpaaProg.lean LOADS. Nothing in Lean hashes anything: it is a label: what it is worth is what the hold of that sum in a sandbox is worth. -/
noncomputable def Try.pinned : Pinned := { name := "ytmjanlgcindfpaa", sum := "c64de0697a0ee6306ecd5877270b0ad40c5a5ebd4fc72574c2d12530daa66e85", checked := Try.checked }
namespace Rows
def none {H : Type} : Left H := { results := [], args := [] }

/-- 'asoflaw03.ChecksumSums': WHATEVER THE INPUT: true; the input reads as it did. -/
def checksumSumsSpec : ChangeSpec := { name := "checksumSums", fn := fun _ => fun
  | [d1, d2] => { results := [.lit (.bool true)], args := [d1, d2] }
  | _ => none }
def checksumSumsRow : OpenClaim := { program := "ytmjanlgcindfpaa", sum := "c64de0697a0ee6306ecd5877270b0ad40c5a5ebd4fc72574c2d12530daa66e85", func := "asof/asoflaw03.ChecksumSums", spec := "checksumSums", unfollowed := true, recurses := true, apart := false }
def ChecksumSumsSaid : Prop := checksumSumsRow.holds Try.pinned (OpenSpec.ofChange checksumSumsSpec)

/-- ITS FALSE NEIGHBOUR: 'it returns false'. Refute it at one input. -/
def checksumSumsWrong : ChangeSpec := { name := "checksumSums", fn := fun _ => fun
  | [d1, d2] => { results := [.lit (.bool false)], args := [d1, d2] }
  | _ => none }
def ChecksumSumsWrongFalsely : Prop := checksumSumsRow.holds Try.pinned (OpenSpec.ofChange checksumSumsWrong)

/-- 'asoflaw03.ChecksumHashes': WHATEVER THE INPUT: true; the input reads as it did. -/
def checksumHashesSpec : ChangeSpec := { name := "checksumHashes", fn := fun _ => fun
  | [d1, d2] => { results := [.lit (.bool true)], args := [d1, d2] }
  | _ => none }
def checksumHashesRow : OpenClaim := { program := "ytmjanlgcindfpaa", sum := "c64de0697a0ee6306ecd5877270b0ad40c5a5ebd4fc72574c2d12530daa66e85", func := "asof/asoflaw03.ChecksumHashes", spec := "checksumHashes", unfollowed := true, recurses := true, apart := false }
def ChecksumHashesSaid : Prop := checksumHashesRow.holds Try.pinned (OpenSpec.ofChange checksumHashesSpec)

/-- ITS FALSE NEIGHBOUR: 'it returns false'. Refute it at one input. -/
def checksumHashesWrong : ChangeSpec := { name := "checksumHashes", fn := fun _ => fun
  | [d1, d2] => { results := [.lit (.bool false)], args := [d1, d2] }
  | _ => none }
def ChecksumHashesWrongFalsely : Prop := checksumHashesRow.holds Try.pinned (OpenSpec.ofChange checksumHashesWrong)

/-- 'asoflaw03.ChecksumSamples': WHATEVER THE INPUT: true; the input reads as it did. -/
def checksumSamplesSpec : ChangeSpec := { name := "checksumSamples", fn := fun _ => fun
  | [d1, d2, d3] => { results := [.lit (.bool true)], args := [d1, d2, d3] }
  | _ => none }
def checksumSamplesRow : OpenClaim := { program := "ytmjanlgcindfpaa", sum := "c64de0697a0ee6306ecd5877270b0ad40c5a5ebd4fc72574c2d12530daa66e85", func := "asof/asoflaw03.ChecksumSamples", spec := "checksumSamples", unfollowed := true, recurses := true, apart := false }
def ChecksumSamplesSaid : Prop := checksumSamplesRow.holds Try.pinned (OpenSpec.ofChange checksumSamplesSpec)

/-- ITS FALSE NEIGHBOUR: 'it returns false'. Refute it at one input. -/
def checksumSamplesWrong : ChangeSpec := { name := "checksumSamples", fn := fun _ => fun
  | [d1, d2, d3] => { results := [.lit (.bool false)], args := [d1, d2, d3] }
  | _ => none }
def ChecksumSamplesWrongFalsely : Prop := checksumSamplesRow.holds Try.pinned (OpenSpec.ofChange checksumSamplesWrong)

/-- 'asoflaw03.ChecksumExtends': WHATEVER THE INPUT: true; the input reads as it did. -/
def checksumExtendsSpec : ChangeSpec := { name := "checksumExtends", fn := fun _ => fun
  | [d1, d2] => { results := [.lit (.bool true)], args := [d1, d2] }
  | _ => none }
def checksumExtendsRow : OpenClaim := { program := "ytmjanlgcindfpaa", sum := "c64de0697a0ee6306ecd5877270b0ad40c5a5ebd4fc72574c2d12530daa66e85", func := "asof/asoflaw03.ChecksumExtends", spec := "checksumExtends", unfollowed := true, recurses := true, apart := false }
def ChecksumExtendsSaid : Prop := checksumExtendsRow.holds Try.pinned (OpenSpec.ofChange checksumExtendsSpec)

/-- ITS FALSE NEIGHBOUR: 'it returns false'. Refute it at one input. -/
def checksumExtendsWrong : ChangeSpec := { name := "checksumExtends", fn := fun _ => fun
  | [d1, d2] => { results := [.lit (.bool false)], args := [d1, d2] }
  | _ => none }
def ChecksumExtendsWrongFalsely : Prop := checksumExtendsRow.holds Try.pinned (OpenSpec.ofChange checksumExtendsWrong)

/-- 'asoflaw03.ChecksumLinear': WHATEVER THE INPUT: true; the input reads as it did. -/
def checksumLinearSpec : ChangeSpec := { name := "checksumLinear", fn := fun _ => fun
  | [d1, d2, d3] => { results := [.lit (.bool true)], args := [d1, d2, d3] }
  | _ => none }
def checksumLinearRow : OpenClaim := { program := "ytmjanlgcindfpaa", sum := "c64de0697a0ee6306ecd5877270b0ad40c5a5ebd4fc72574c2d12530daa66e85", func := "asof/asoflaw03.ChecksumLinear", spec := "checksumLinear", unfollowed := true, recurses := true, apart := false }
def ChecksumLinearSaid : Prop := checksumLinearRow.holds Try.pinned (OpenSpec.ofChange checksumLinearSpec)

/-- ITS FALSE NEIGHBOUR: 'it returns false'. Refute it at one input. -/
def checksumLinearWrong : ChangeSpec := { name := "checksumLinear", fn := fun _ => fun
  | [d1, d2, d3] => { results := [.lit (.bool false)], args := [d1, d2, d3] }
  | _ => none }
def ChecksumLinearWrongFalsely : Prop := checksumLinearRow.holds Try.pinned (OpenSpec.ofChange checksumLinearWrong)

/-- 'asoflaw03.ChecksumDetects': WHATEVER THE INPUT: true; the input reads as it did. -/
def checksumDetectsSpec : ChangeSpec := { name := "checksumDetects", fn := fun _ => fun
  | [d1, d2, d3] => { results := [.lit (.bool true)], args := [d1, d2, d3] }
  | _ => none }
def checksumDetectsRow : OpenClaim := { program := "ytmjanlgcindfpaa", sum := "c64de0697a0ee6306ecd5877270b0ad40c5a5ebd4fc72574c2d12530daa66e85", func := "asof/asoflaw03.ChecksumDetects", spec := "checksumDetects", unfollowed := true, recurses := true, apart := false }
def ChecksumDetectsSaid : Prop := checksumDetectsRow.holds Try.pinned (OpenSpec.ofChange checksumDetectsSpec)

/-- ITS FALSE NEIGHBOUR: 'it returns false'. Refute it at one input. -/
def checksumDetectsWrong : ChangeSpec := { name := "checksumDetects", fn := fun _ => fun
  | [d1, d2, d3] => { results := [.lit (.bool false)], args := [d1, d2, d3] }
  | _ => none }
def ChecksumDetectsWrongFalsely : Prop := checksumDetectsRow.holds Try.pinned (OpenSpec.ofChange checksumDetectsWrong)

/-- 'asoflaw03.ChecksumDiffers': WHATEVER THE INPUT: true; the input reads as it did. -/
def checksumDiffersSpec : ChangeSpec := { name := "checksumDiffers", fn := fun _ => fun
  | [d1, d2, d3, d4] => { results := [.lit (.bool true)], args := [d1, d2, d3, d4] }
  | _ => none }
def checksumDiffersRow : OpenClaim := { program := "ytmjanlgcindfpaa", sum := "c64de0697a0ee6306ecd5877270b0ad40c5a5ebd4fc72574c2d12530daa66e85", func := "asof/asoflaw03.ChecksumDiffers", spec := "checksumDiffers", unfollowed := true, recurses := true, apart := false }
def ChecksumDiffersSaid : Prop := checksumDiffersRow.holds Try.pinned (OpenSpec.ofChange checksumDiffersSpec)

/-- ITS FALSE NEIGHBOUR: 'it returns false'. Refute it at one input. -/
def checksumDiffersWrong : ChangeSpec := { name := "checksumDiffers", fn := fun _ => fun
  | [d1, d2, d3, d4] => { results := [.lit (.bool false)], args := [d1, d2, d3, d4] }
  | _ => none }
def ChecksumDiffersWrongFalsely : Prop := checksumDiffersRow.holds Try.pinned (OpenSpec.ofChange checksumDiffersWrong)

/- THE SECOND FORM. 'bulk': how many values and letters a reading holds, each counted each time it is reached (what is shared counts as often as it is met; a slice's spare places count too). A statement '..UptoSaid' is the law's where the arguments, and the package variables that the reading takes, are together of bulk at most 1048576: NARROWER than '..Said'. Prove '..Said' where nothing that the law and all that it calls make is longer than what came in: it says more and counts as full. Else prove '..UptoSaid'. A law counts once. -/
mutual
def uptoBulk {H : Type} : DataW H → Nat
  | .lit (.string bytes) => bytes.length + 1
  | .lit _ => 1
  | .nil => 1
  | .ptr d => uptoBulk d + 1
  | .slice elems spare => uptoBulkAll elems + uptoBulkAll spare + 1
  | .agg parts => uptoBulkAll parts + 1
  | .iface _ d => uptoBulk d + 1
  | .map entries => uptoBulkEntries entries + 1
  | .held _ => 1
def uptoBulkAll {H : Type} : List (DataW H) → Nat
  | [] => 0
  | d :: r => uptoBulk d + uptoBulkAll r
def uptoBulkEntries {H : Type} : List (Lit × DataW H) → Nat
  | [] => 0
  | x :: r => uptoBulkEntry x + uptoBulkEntries r
def uptoBulkEntry {H : Type} : Lit × DataW H → Nat
  | (.string bytes, d) => bytes.length + uptoBulk d + 1
  | (_, d) => uptoBulk d + 1
 end
def uptoSmall : (H : Type) → List (DataW H) → Bool := fun _ ds => decide (uptoBulkAll ds ≤ 1048576)
def OpenSpec.upto (s : _root_.Go.ChangeSpec) : _root_.Go.OpenSpec := { _root_.Go.OpenSpec.ofChange s with cond := some uptoSmall }

/-- 'asoflaw03.ChecksumSums', WHERE WHAT IT READS IS OF BULK AT MOST 1048576: true; the input reads as it did. -/
def checksumSumsUptoRow : OpenClaim := { program := "ytmjanlgcindfpaa", sum := "c64de0697a0ee6306ecd5877270b0ad40c5a5ebd4fc72574c2d12530daa66e85", func := "asof/asoflaw03.ChecksumSums", spec := "checksumSums", unfollowed := true, recurses := true, apart := false, narrowed := true }
def ChecksumSumsUptoSaid : Prop := checksumSumsUptoRow.holds Try.pinned (OpenSpec.upto checksumSumsSpec)

/-- 'asoflaw03.ChecksumHashes', WHERE WHAT IT READS IS OF BULK AT MOST 1048576: true; the input reads as it did. -/
def checksumHashesUptoRow : OpenClaim := { program := "ytmjanlgcindfpaa", sum := "c64de0697a0ee6306ecd5877270b0ad40c5a5ebd4fc72574c2d12530daa66e85", func := "asof/asoflaw03.ChecksumHashes", spec := "checksumHashes", unfollowed := true, recurses := true, apart := false, narrowed := true }
def ChecksumHashesUptoSaid : Prop := checksumHashesUptoRow.holds Try.pinned (OpenSpec.upto checksumHashesSpec)

/-- 'asoflaw03.ChecksumSamples', WHERE WHAT IT READS IS OF BULK AT MOST 1048576: true; the input reads as it did. -/
def checksumSamplesUptoRow : OpenClaim := { program := "ytmjanlgcindfpaa", sum := "c64de0697a0ee6306ecd5877270b0ad40c5a5ebd4fc72574c2d12530daa66e85", func := "asof/asoflaw03.ChecksumSamples", spec := "checksumSamples", unfollowed := true, recurses := true, apart := false, narrowed := true }
def ChecksumSamplesUptoSaid : Prop := checksumSamplesUptoRow.holds Try.pinned (OpenSpec.upto checksumSamplesSpec)

/-- 'asoflaw03.ChecksumExtends', WHERE WHAT IT READS IS OF BULK AT MOST 1048576: true; the input reads as it did. -/
def checksumExtendsUptoRow : OpenClaim := { program := "ytmjanlgcindfpaa", sum := "c64de0697a0ee6306ecd5877270b0ad40c5a5ebd4fc72574c2d12530daa66e85", func := "asof/asoflaw03.ChecksumExtends", spec := "checksumExtends", unfollowed := true, recurses := true, apart := false, narrowed := true }
def ChecksumExtendsUptoSaid : Prop := checksumExtendsUptoRow.holds Try.pinned (OpenSpec.upto checksumExtendsSpec)

/-- 'asoflaw03.ChecksumLinear', WHERE WHAT IT READS IS OF BULK AT MOST 1048576: true; the input reads as it did. -/
def checksumLinearUptoRow : OpenClaim := { program := "ytmjanlgcindfpaa", sum := "c64de0697a0ee6306ecd5877270b0ad40c5a5ebd4fc72574c2d12530daa66e85", func := "asof/asoflaw03.ChecksumLinear", spec := "checksumLinear", unfollowed := true, recurses := true, apart := false, narrowed := true }
def ChecksumLinearUptoSaid : Prop := checksumLinearUptoRow.holds Try.pinned (OpenSpec.upto checksumLinearSpec)

/-- 'asoflaw03.ChecksumDetects', WHERE WHAT IT READS IS OF BULK AT MOST 1048576: true; the input reads as it did. -/
def checksumDetectsUptoRow : OpenClaim := { program := "ytmjanlgcindfpaa", sum := "c64de0697a0ee6306ecd5877270b0ad40c5a5ebd4fc72574c2d12530daa66e85", func := "asof/asoflaw03.ChecksumDetects", spec := "checksumDetects", unfollowed := true, recurses := true, apart := false, narrowed := true }
def ChecksumDetectsUptoSaid : Prop := checksumDetectsUptoRow.holds Try.pinned (OpenSpec.upto checksumDetectsSpec)

/-- 'asoflaw03.ChecksumDiffers', WHERE WHAT IT READS IS OF BULK AT MOST 1048576: true; the input reads as it did. -/
def checksumDiffersUptoRow : OpenClaim := { program := "ytmjanlgcindfpaa", sum := "c64de0697a0ee6306ecd5877270b0ad40c5a5ebd4fc72574c2d12530daa66e85", func := "asof/asoflaw03.ChecksumDiffers", spec := "checksumDiffers", unfollowed := true, recurses := true, apart := false, narrowed := true }
def ChecksumDiffersUptoSaid : Prop := checksumDiffersUptoRow.holds Try.pinned (OpenSpec.upto checksumDiffersSpec)

end Rows
end Go.Proofs.Ytmjanlgcindfpaa
