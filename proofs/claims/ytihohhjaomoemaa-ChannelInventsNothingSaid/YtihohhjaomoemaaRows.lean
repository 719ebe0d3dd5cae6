/-
  No cell of these rows narrows 'for every input' (looked for: loops, veiled, ifaces, maps, wideKeys, modest, calm, conditions, laid).
  DERIVED. THE GIVEN ROWS OF THIS SEAT. 6 by the template 'for every input the law returns true; each argument reads behind the call as it read before'; 0 by the template 'total and deterministic' (their statements: YtihohhjaomoemaaTotals.lean).
  GIVEN WITH THE SEED: the statements are not yours to turn. If you find one false, say at which input.
  Laid BY PROGRAM, IN A SANDBOX (cutbox-rows.mjs): the forced cells as the released guide's own fill.sh prints them over the translation 24e26469fb1ca748… (all of the seat's roots in one cut). By AI agents, Wed Nov 11 2026. No macro, syntax, notation, axiom, sorry.
-/
import Derived.Test.YtihohhjaomoemaaChecked
import GoSem.Claim
import GoSem.ClaimJoined
import GoSem.ClaimMapViews
import Derived.JoinedTies
import Derived.KernelRfl
namespace Go.Proofs.Ytihohhjaomoemaa
/- THE CELL 'sum', in the pinned program and in every row, IS THE sha256 OF THE DUMP (.gsa) THAT YtihohhjaomoemaaProg.lean LOADS. Nothing in Lean hashes anything: it is a label: what it is worth is what the hold of that sum in a sandbox is worth. -/
noncomputable def Try.pinned : Pinned := { name := "ytihohhjaomoemaa", sum := "24e26469fb1ca748ea9591fb7e39bd59b2c54d0d29336efd45a95afea9d7bf48", checked := Try.checked }
namespace Rows
def none {H : Type} : Left H := { results := [], args := [] }

/-- 'asoflaw40.ChannelKeepsOrder': WHATEVER THE INPUT: true; the input reads as it did. -/
def channelKeepsOrderSpec : ChangeSpec := { name := "channelKeepsOrder", fn := fun _ => fun
  | [d1, d2, d3] => { results := [.lit (.bool true)], args := [d1, d2, d3] }
  | _ => none }
def channelKeepsOrderRow : OpenClaim := { program := "ytihohhjaomoemaa", sum := "24e26469fb1ca748ea9591fb7e39bd59b2c54d0d29336efd45a95afea9d7bf48", func := "asof/asoflaw40.ChannelKeepsOrder", spec := "channelKeepsOrder", inPlace := ["internal/bytealg.IndexByteString", "internal/bytealg.IndexString"], named := ["internal/bytealg.MaxLen"], apart := false }
def ChannelKeepsOrderSaid : Prop := channelKeepsOrderRow.holds Try.pinned (OpenSpec.ofChange channelKeepsOrderSpec)

/-- ITS FALSE NEIGHBOUR: 'it returns false'. Refute it at one input. -/
def channelKeepsOrderWrong : ChangeSpec := { name := "channelKeepsOrder", fn := fun _ => fun
  | [d1, d2, d3] => { results := [.lit (.bool false)], args := [d1, d2, d3] }
  | _ => none }
def ChannelKeepsOrderWrongFalsely : Prop := channelKeepsOrderRow.holds Try.pinned (OpenSpec.ofChange channelKeepsOrderWrong)

/-- 'asoflaw40.ChannelAnyOrder': WHATEVER THE INPUT: true; the input reads as it did. -/
def channelAnyOrderSpec : ChangeSpec := { name := "channelAnyOrder", fn := fun _ => fun
  | [d1, d2] => { results := [.lit (.bool true)], args := [d1, d2] }
  | _ => none }
def channelAnyOrderRow : OpenClaim := { program := "ytihohhjaomoemaa", sum := "24e26469fb1ca748ea9591fb7e39bd59b2c54d0d29336efd45a95afea9d7bf48", func := "asof/asoflaw40.ChannelAnyOrder", spec := "channelAnyOrder", inPlace := ["internal/bytealg.IndexByteString", "internal/bytealg.IndexString"], named := ["internal/bytealg.MaxLen"], apart := false }
def ChannelAnyOrderSaid : Prop := channelAnyOrderRow.holds Try.pinned (OpenSpec.ofChange channelAnyOrderSpec)

/-- ITS FALSE NEIGHBOUR: 'it returns false'. Refute it at one input. -/
def channelAnyOrderWrong : ChangeSpec := { name := "channelAnyOrder", fn := fun _ => fun
  | [d1, d2] => { results := [.lit (.bool false)], args := [d1, d2] }
  | _ => none }
def ChannelAnyOrderWrongFalsely : Prop := channelAnyOrderRow.holds Try.pinned (OpenSpec.ofChange channelAnyOrderWrong)

/-- 'asoflaw40.ChannelExchange': WHATEVER THE INPUT: true; the input reads as it did. -/
def channelExchangeSpec : ChangeSpec := { name := "channelExchange", fn := fun _ => fun
  | [d1, d2, d3] => { results := [.lit (.bool true)], args := [d1, d2, d3] }
  | _ => none }
def channelExchangeRow : OpenClaim := { program := "ytihohhjaomoemaa", sum := "24e26469fb1ca748ea9591fb7e39bd59b2c54d0d29336efd45a95afea9d7bf48", func := "asof/asoflaw40.ChannelExchange", spec := "channelExchange", inPlace := ["internal/bytealg.IndexByteString", "internal/bytealg.IndexString"], named := ["internal/bytealg.MaxLen"], apart := false }
def ChannelExchangeSaid : Prop := channelExchangeRow.holds Try.pinned (OpenSpec.ofChange channelExchangeSpec)

/-- ITS FALSE NEIGHBOUR: 'it returns false'. Refute it at one input. -/
def channelExchangeWrong : ChangeSpec := { name := "channelExchange", fn := fun _ => fun
  | [d1, d2, d3] => { results := [.lit (.bool false)], args := [d1, d2, d3] }
  | _ => none }
def ChannelExchangeWrongFalsely : Prop := channelExchangeRow.holds Try.pinned (OpenSpec.ofChange channelExchangeWrong)

/-- 'asoflaw40.ChannelPackets': WHATEVER THE INPUT: true; the input reads as it did. -/
def channelPacketsSpec : ChangeSpec := { name := "channelPackets", fn := fun _ => fun
  | [d] => { results := [.lit (.bool true)], args := [d] }
  | _ => none }
def channelPacketsRow : OpenClaim := { program := "ytihohhjaomoemaa", sum := "24e26469fb1ca748ea9591fb7e39bd59b2c54d0d29336efd45a95afea9d7bf48", func := "asof/asoflaw40.ChannelPackets", spec := "channelPackets", inPlace := ["internal/bytealg.IndexByteString", "internal/bytealg.IndexString"], named := ["internal/bytealg.MaxLen"], apart := false }
def ChannelPacketsSaid : Prop := channelPacketsRow.holds Try.pinned (OpenSpec.ofChange channelPacketsSpec)

/-- ITS FALSE NEIGHBOUR: 'it returns false'. Refute it at one input. -/
def channelPacketsWrong : ChangeSpec := { name := "channelPackets", fn := fun _ => fun
  | [d] => { results := [.lit (.bool false)], args := [d] }
  | _ => none }
def ChannelPacketsWrongFalsely : Prop := channelPacketsRow.holds Try.pinned (OpenSpec.ofChange channelPacketsWrong)

/-- 'asoflaw40.ChannelMatches': WHATEVER THE INPUT: true; the input reads as it did. -/
def channelMatchesSpec : ChangeSpec := { name := "channelMatches", fn := fun _ => fun
  | [d1, d2, d3] => { results := [.lit (.bool true)], args := [d1, d2, d3] }
  | _ => none }
def channelMatchesRow : OpenClaim := { program := "ytihohhjaomoemaa", sum := "24e26469fb1ca748ea9591fb7e39bd59b2c54d0d29336efd45a95afea9d7bf48", func := "asof/asoflaw40.ChannelMatches", spec := "channelMatches", inPlace := ["internal/bytealg.IndexByteString", "internal/bytealg.IndexString"], named := ["internal/bytealg.MaxLen"], apart := false }
def ChannelMatchesSaid : Prop := channelMatchesRow.holds Try.pinned (OpenSpec.ofChange channelMatchesSpec)

/-- ITS FALSE NEIGHBOUR: 'it returns false'. Refute it at one input. -/
def channelMatchesWrong : ChangeSpec := { name := "channelMatches", fn := fun _ => fun
  | [d1, d2, d3] => { results := [.lit (.bool false)], args := [d1, d2, d3] }
  | _ => none }
def ChannelMatchesWrongFalsely : Prop := channelMatchesRow.holds Try.pinned (OpenSpec.ofChange channelMatchesWrong)

/-- 'asoflaw40.ChannelInventsNothing': WHATEVER THE INPUT: true; the input reads as it did. -/
def channelInventsNothingSpec : ChangeSpec := { name := "channelInventsNothing", fn := fun _ => fun
  | [d] => { results := [.lit (.bool true)], args := [d] }
  | _ => none }
def channelInventsNothingRow : OpenClaim := { program := "ytihohhjaomoemaa", sum := "24e26469fb1ca748ea9591fb7e39bd59b2c54d0d29336efd45a95afea9d7bf48", func := "asof/asoflaw40.ChannelInventsNothing", spec := "channelInventsNothing", inPlace := ["internal/bytealg.IndexByteString", "internal/bytealg.IndexString"], named := ["internal/bytealg.MaxLen"], apart := false }
def ChannelInventsNothingSaid : Prop := channelInventsNothingRow.holds Try.pinned (OpenSpec.ofChange channelInventsNothingSpec)

/-- ITS FALSE NEIGHBOUR: 'it returns false'. Refute it at one input. -/
def channelInventsNothingWrong : ChangeSpec := { name := "channelInventsNothing", fn := fun _ => fun
  | [d] => { results := [.lit (.bool false)], args := [d] }
  | _ => none }
def ChannelInventsNothingWrongFalsely : Prop := channelInventsNothingRow.holds Try.pinned (OpenSpec.ofChange channelInventsNothingWrong)

/- THE SECOND FORM. 'bulk': how many values and letters a reading holds, each counted each time it is reached (what is shared counts as often as it is met; a slice's spare places count too). A statement '..UptoSaid' is the law's where the arguments, and the package variables that the reading takes, are together of bulk at most 1048576: NARROWER than '..Said'. Prove '..Said' where nothing that the law and all that it calls make is longer than what came in: it says more and counts as full. Else prove '..UptoSaid'. A law counts once. -/
mutual
def uptoBulk {H : Type} : DataW H → Nat
  | .lit (.string bytes) => bytes.length + 1
  | .lit _ => 1
  | .nil => 1
  | .ptr d => uptoBulk d + 1
  | .slice elems spare => uptoBulkAll elems + uptoBulkAll spare + 1
  | .agg parts => uptoBulkAll parts + 1
  | .iface _ d => uptoBulk d + 1
  | .map entries => uptoBulkEntries entries + 1
  | .held _ => 1
def uptoBulkAll {H : Type} : List (DataW H) → Nat
  | [] => 0
  | d :: r => uptoBulk d + uptoBulkAll r
def uptoBulkEntries {H : Type} : List (Lit × DataW H) → Nat
  | [] => 0
  | x :: r => uptoBulkEntry x + uptoBulkEntries r
def uptoBulkEntry {H : Type} : Lit × DataW H → Nat
  | (.string bytes, d) => bytes.length + uptoBulk d + 1
  | (_, d) => uptoBulk d + 1
 end
def uptoSmall : (H : Type) → List (DataW H) → Bool := fun _ ds => decide (uptoBulkAll ds ≤ 1048576)
def OpenSpec.upto (s : _root_.Go.ChangeSpec) : _root_.Go.OpenSpec := { _root_.Go.OpenSpec.ofChange s with cond := some uptoSmall }

/-- 'asoflaw40.ChannelKeepsOrder', WHERE WHAT IT READS IS OF BULK AT MOST 1048576: true; the input reads as it did. -/
def channelKeepsOrderUptoRow : OpenClaim := { program := "ytihohhjaomoemaa", sum := "24e26469fb1ca748ea9591fb7e39bd59b2c54d0d29336efd45a95afea9d7bf48", func := "asof/asoflaw40.ChannelKeepsOrder", spec := "channelKeepsOrder", inPlace := ["internal/bytealg.IndexByteString", "internal/bytealg.IndexString"], named := ["internal/bytealg.MaxLen"], apart := false, narrowed := true }
def ChannelKeepsOrderUptoSaid : Prop := channelKeepsOrderUptoRow.holds Try.pinned (OpenSpec.upto channelKeepsOrderSpec)

/-- 'asoflaw40.ChannelAnyOrder', WHERE WHAT IT READS IS OF BULK AT MOST 1048576: true; the input reads as it did. -/
def channelAnyOrderUptoRow : OpenClaim := { program := "ytihohhjaomoemaa", sum := "24e26469fb1ca748ea9591fb7e39bd59b2c54d0d29336efd45a95afea9d7bf48", func := "asof/asoflaw40.ChannelAnyOrder", spec := "channelAnyOrder", inPlace := ["internal/bytealg.IndexByteString", "internal/bytealg.IndexString"], named := ["internal/bytealg.MaxLen"], apart := false, narrowed := true }
def ChannelAnyOrderUptoSaid : Prop := channelAnyOrderUptoRow.holds Try.pinned (OpenSpec.upto channelAnyOrderSpec)

/-- 'asoflaw40.ChannelExchange', WHERE WHAT IT READS IS OF BULK AT MOST 1048576: true; the input reads as it did. -/
def channelExchangeUptoRow : OpenClaim := { program := "ytihohhjaomoemaa", sum := "24e26469fb1ca748ea9591fb7e39bd59b2c54d0d29336efd45a95afea9d7bf48", func := "asof/asoflaw40.ChannelExchange", spec := "channelExchange", inPlace := ["internal/bytealg.IndexByteString", "internal/bytealg.IndexString"], named := ["internal/bytealg.MaxLen"], apart := false, narrowed := true }
def ChannelExchangeUptoSaid : Prop := channelExchangeUptoRow.holds Try.pinned (OpenSpec.upto channelExchangeSpec)

/-- 'asoflaw40.ChannelPackets', WHERE WHAT IT READS IS OF BULK AT MOST 1048576: true; the input reads as it did. -/
def channelPacketsUptoRow : OpenClaim := { program := "ytihohhjaomoemaa", sum := "24e26469fb1ca748ea9591fb7e39bd59b2c54d0d29336efd45a95afea9d7bf48", func := "asof/asoflaw40.ChannelPackets", spec := "channelPackets", inPlace := ["internal/bytealg.IndexByteString", "internal/bytealg.IndexString"], named := ["internal/bytealg.MaxLen"], apart := false, narrowed := true }
def ChannelPacketsUptoSaid : Prop := channelPacketsUptoRow.holds Try.pinned (OpenSpec.upto channelPacketsSpec)

/-- 'asoflaw40.ChannelMatches', WHERE WHAT IT READS IS OF BULK AT MOST 1048576: true; the input reads as it did. -/
def channelMatchesUptoRow : OpenClaim := { program := "ytihohhjaomoemaa", sum := "24e26469fb1ca748ea9591fb7e39bd59b2c54d0d29336efd45a95afea9d7bf48", func := "asof/asoflaw40.ChannelMatches", spec := "channelMatches", inPlace := ["internal/bytealg.IndexByteString", "internal/bytealg.IndexString"], named := ["internal/bytealg.MaxLen"], apart := false, narrowed := true }
def ChannelMatchesUptoSaid : Prop := channelMatchesUptoRow.holds Try.pinned (OpenSpec.upto channelMatchesSpec)

/-- 'asoflaw40.ChannelInventsNothing', WHERE WHAT IT READS IS OF BULK AT MOST 1048576: true; the input reads as it did. -/
def channelInventsNothingUptoRow : OpenClaim := { program := "ytihohhjaomoemaa", sum := "24e26469fb1ca748ea9591fb7e39bd59b2c54d0d29336efd45a95afea9d7bf48", func := "asof/asoflaw40.ChannelInventsNothing", spec := "channelInventsNothing", inPlace := ["internal/bytealg.IndexByteString", "internal/bytealg.IndexString"], named := ["internal/bytealg.MaxLen"], apart := false, narrowed := true }
def ChannelInventsNothingUptoSaid : Prop := channelInventsNothingUptoRow.holds Try.pinned (OpenSpec.upto channelInventsNothingSpec)

end Rows
end Go.Proofs.Ytihohhjaomoemaa
