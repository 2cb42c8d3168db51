/-
  No cell of these rows narrows 'for every input' (looked for: loops, veiled, ifaces, maps, wideKeys, modest, calm, conditions, laid).
  DERIVED. THE GIVEN ROWS OF THIS SEAT. 5 by the template 'for every input the law returns true; each argument reads behind the call as it read before'; 0 by the template 'total and deterministic' (their statements: YteljmmdbgnjflaaTotals.lean).
  GIVEN WITH THE SEED: the statements are not yours to turn. If you find one false, say at which input.
  Laid BY PROGRAM, IN A SANDBOX (cutbox-rows.mjs): the forced cells as the released guide's own fill.sh prints them over the translation 214d2a95ca4ee439… (all of the seat's roots in one cut). By AI agents, Wed Nov 11 2026. No macro, syntax, notation, axiom, sorry.
-/
import Derived.Test.YteljmmdbgnjflaaChecked
import GoSem.Claim
import GoSem.ClaimJoined
import GoSem.ClaimMapViews
import Derived.JoinedTies
import Derived.KernelRfl
namespace Go.Proofs.Yteljmmdbgnjflaa
/- THE CELL 'sum', in the pinned program and in every row, IS THE sha256 OF THE DUMP (.gsa) THAT YteljmmdbgnjflaaProg.lean LOADS. Nothing in Lean hashes anything: it is a label: what it is worth is what the hold of that sum in a sandbox is worth. -/
noncomputable def Try.pinned : Pinned := { name := "yteljmmdbgnjflaa", sum := "214d2a95ca4ee43928a8b5616146dd941e8455519bd6fce34fd3ecd2d694c3eb", checked := Try.checked }
namespace Rows
def none {H : Type} : Left H := { results := [], args := [] }

/-- 'linkhouselaw2.FrameChecksumMatchesSpec': WHATEVER THE INPUT: true; the input reads as it did. -/
def frameChecksumMatchesSpecSpec : ChangeSpec := { name := "frameChecksumMatchesSpec", fn := fun _ => fun
  | [d1, d2, d3] => { results := [.lit (.bool true)], args := [d1, d2, d3] }
  | _ => none }
def frameChecksumMatchesSpecRow : OpenClaim := { program := "yteljmmdbgnjflaa", sum := "214d2a95ca4ee43928a8b5616146dd941e8455519bd6fce34fd3ecd2d694c3eb", func := "linkhouse/linkhouselaw2.FrameChecksumMatchesSpec", spec := "frameChecksumMatchesSpec", unfollowed := true, recurses := true, apart := false }
def FrameChecksumMatchesSpecSaid : Prop := frameChecksumMatchesSpecRow.holds Try.pinned (OpenSpec.ofChange frameChecksumMatchesSpecSpec)

/-- ITS FALSE NEIGHBOUR: 'it returns false'. Refute it at one input. -/
def frameChecksumMatchesSpecWrong : ChangeSpec := { name := "frameChecksumMatchesSpec", fn := fun _ => fun
  | [d1, d2, d3] => { results := [.lit (.bool false)], args := [d1, d2, d3] }
  | _ => none }
def FrameChecksumMatchesSpecWrongFalsely : Prop := frameChecksumMatchesSpecRow.holds Try.pinned (OpenSpec.ofChange frameChecksumMatchesSpecWrong)

/-- 'linkhouselaw2.FramePackMatchesSpec': WHATEVER THE INPUT: true; the input reads as it did. -/
def framePackMatchesSpecSpec : ChangeSpec := { name := "framePackMatchesSpec", fn := fun _ => fun
  | [d] => { results := [.lit (.bool true)], args := [d] }
  | _ => none }
def framePackMatchesSpecRow : OpenClaim := { program := "yteljmmdbgnjflaa", sum := "214d2a95ca4ee43928a8b5616146dd941e8455519bd6fce34fd3ecd2d694c3eb", func := "linkhouse/linkhouselaw2.FramePackMatchesSpec", spec := "framePackMatchesSpec", unfollowed := true, recurses := true, apart := false }
def FramePackMatchesSpecSaid : Prop := framePackMatchesSpecRow.holds Try.pinned (OpenSpec.ofChange framePackMatchesSpecSpec)

/-- ITS FALSE NEIGHBOUR: 'it returns false'. Refute it at one input. -/
def framePackMatchesSpecWrong : ChangeSpec := { name := "framePackMatchesSpec", fn := fun _ => fun
  | [d] => { results := [.lit (.bool false)], args := [d] }
  | _ => none }
def FramePackMatchesSpecWrongFalsely : Prop := framePackMatchesSpecRow.holds Try.pinned (OpenSpec.ofChange framePackMatchesSpecWrong)

/-- 'linkhouselaw2.FrameRoundTrip': WHATEVER THE INPUT: true; the input reads as it did. -/
def frameRoundTripSpec : ChangeSpec := { name := "frameRoundTrip", fn := fun _ => fun
  | [d] => { results := [.lit (.bool true)], args := [d] }
  | _ => none }
def frameRoundTripRow : OpenClaim := { program := "yteljmmdbgnjflaa", sum := "214d2a95ca4ee43928a8b5616146dd941e8455519bd6fce34fd3ecd2d694c3eb", func := "linkhouse/linkhouselaw2.FrameRoundTrip", spec := "frameRoundTrip", unfollowed := true, recurses := true, apart := false }
def FrameRoundTripSaid : Prop := frameRoundTripRow.holds Try.pinned (OpenSpec.ofChange frameRoundTripSpec)

/-- ITS FALSE NEIGHBOUR: 'it returns false'. Refute it at one input. -/
def frameRoundTripWrong : ChangeSpec := { name := "frameRoundTrip", fn := fun _ => fun
  | [d] => { results := [.lit (.bool false)], args := [d] }
  | _ => none }
def FrameRoundTripWrongFalsely : Prop := frameRoundTripRow.holds Try.pinned (OpenSpec.ofChange frameRoundTripWrong)

/-- 'linkhouselaw2.FrameUnique': WHATEVER THE INPUT: true; the input reads as it did. -/
def frameUniqueSpec : ChangeSpec := { name := "frameUnique", fn := fun _ => fun
  | [d] => { results := [.lit (.bool true)], args := [d] }
  | _ => none }
def frameUniqueRow : OpenClaim := { program := "yteljmmdbgnjflaa", sum := "214d2a95ca4ee43928a8b5616146dd941e8455519bd6fce34fd3ecd2d694c3eb", func := "linkhouse/linkhouselaw2.FrameUnique", spec := "frameUnique", unfollowed := true, recurses := true, apart := false }
def FrameUniqueSaid : Prop := frameUniqueRow.holds Try.pinned (OpenSpec.ofChange frameUniqueSpec)

/-- ITS FALSE NEIGHBOUR: 'it returns false'. Refute it at one input. -/
def frameUniqueWrong : ChangeSpec := { name := "frameUnique", fn := fun _ => fun
  | [d] => { results := [.lit (.bool false)], args := [d] }
  | _ => none }
def FrameUniqueWrongFalsely : Prop := frameUniqueRow.holds Try.pinned (OpenSpec.ofChange frameUniqueWrong)

/-- 'linkhouselaw2.FrameBlocksFollow': WHATEVER THE INPUT: true; the input reads as it did. -/
def frameBlocksFollowSpec : ChangeSpec := { name := "frameBlocksFollow", fn := fun _ => fun
  | [d1, d2] => { results := [.lit (.bool true)], args := [d1, d2] }
  | _ => none }
def frameBlocksFollowRow : OpenClaim := { program := "yteljmmdbgnjflaa", sum := "214d2a95ca4ee43928a8b5616146dd941e8455519bd6fce34fd3ecd2d694c3eb", func := "linkhouse/linkhouselaw2.FrameBlocksFollow", spec := "frameBlocksFollow", unfollowed := true, recurses := true, apart := false }
def FrameBlocksFollowSaid : Prop := frameBlocksFollowRow.holds Try.pinned (OpenSpec.ofChange frameBlocksFollowSpec)

/-- ITS FALSE NEIGHBOUR: 'it returns false'. Refute it at one input. -/
def frameBlocksFollowWrong : ChangeSpec := { name := "frameBlocksFollow", fn := fun _ => fun
  | [d1, d2] => { results := [.lit (.bool false)], args := [d1, d2] }
  | _ => none }
def FrameBlocksFollowWrongFalsely : Prop := frameBlocksFollowRow.holds Try.pinned (OpenSpec.ofChange frameBlocksFollowWrong)

/- THE SECOND FORM. 'bulk': how many values and letters a reading holds, each counted each time it is reached (what is shared counts as often as it is met; a slice's spare places count too). A statement '..UptoSaid' is the law's where the arguments, and the package variables that the reading takes, are together of bulk at most 1048576: NARROWER than '..Said'. Prove '..Said' where nothing that the law and all that it calls make is longer than what came in: it says more and counts as full. Else prove '..UptoSaid'. A law counts once. -/
mutual
def uptoBulk {H : Type} : DataW H → Nat
  | .lit (.string bytes) => bytes.length + 1
  | .lit _ => 1
  | .nil => 1
  | .ptr d => uptoBulk d + 1
  | .slice elems spare => uptoBulkAll elems + uptoBulkAll spare + 1
  | .agg parts => uptoBulkAll parts + 1
  | .iface _ d => uptoBulk d + 1
  | .map entries => uptoBulkEntries entries + 1
  | .held _ => 1
def uptoBulkAll {H : Type} : List (DataW H) → Nat
  | [] => 0
  | d :: r => uptoBulk d + uptoBulkAll r
def uptoBulkEntries {H : Type} : List (Lit × DataW H) → Nat
  | [] => 0
  | x :: r => uptoBulkEntry x + uptoBulkEntries r
def uptoBulkEntry {H : Type} : Lit × DataW H → Nat
  | (.string bytes, d) => bytes.length + uptoBulk d + 1
  | (_, d) => uptoBulk d + 1
 end
def uptoSmall : (H : Type) → List (DataW H) → Bool := fun _ ds => decide (uptoBulkAll ds ≤ 1048576)
def OpenSpec.upto (s : _root_.Go.ChangeSpec) : _root_.Go.OpenSpec := { _root_.Go.OpenSpec.ofChange s with cond := some uptoSmall }

/-- 'linkhouselaw2.FrameChecksumMatchesSpec', WHERE WHAT IT READS IS OF BULK AT MOST 1048576: true; the input reads as it did. -/
def frameChecksumMatchesSpecUptoRow : OpenClaim := { program := "yteljmmdbgnjflaa", sum := "214d2a95ca4ee43928a8b5616146dd941e8455519bd6fce34fd3ecd2d694c3eb", func := "linkhouse/linkhouselaw2.FrameChecksumMatchesSpec", spec := "frameChecksumMatchesSpec", unfollowed := true, recurses := true, apart := false, narrowed := true }
def FrameChecksumMatchesSpecUptoSaid : Prop := frameChecksumMatchesSpecUptoRow.holds Try.pinned (OpenSpec.upto frameChecksumMatchesSpecSpec)

/-- 'linkhouselaw2.FramePackMatchesSpec', WHERE WHAT IT READS IS OF BULK AT MOST 1048576: true; the input reads as it did. -/
def framePackMatchesSpecUptoRow : OpenClaim := { program := "yteljmmdbgnjflaa", sum := "214d2a95ca4ee43928a8b5616146dd941e8455519bd6fce34fd3ecd2d694c3eb", func := "linkhouse/linkhouselaw2.FramePackMatchesSpec", spec := "framePackMatchesSpec", unfollowed := true, recurses := true, apart := false, narrowed := true }
def FramePackMatchesSpecUptoSaid : Prop := framePackMatchesSpecUptoRow.holds Try.pinned (OpenSpec.upto framePackMatchesSpecSpec)

/-- 'linkhouselaw2.FrameRoundTrip', WHERE WHAT IT READS IS OF BULK AT MOST 1048576: true; the input reads as it did. -/
def frameRoundTripUptoRow : OpenClaim := { program := "yteljmmdbgnjflaa", sum := "214d2a95ca4ee43928a8b5616146dd941e8455519bd6fce34fd3ecd2d694c3eb", func := "linkhouse/linkhouselaw2.FrameRoundTrip", spec := "frameRoundTrip", unfollowed := true, recurses := true, apart := false, narrowed := true }
def FrameRoundTripUptoSaid : Prop := frameRoundTripUptoRow.holds Try.pinned (OpenSpec.upto frameRoundTripSpec)

/-- 'linkhouselaw2.FrameUnique', WHERE WHAT IT READS IS OF BULK AT MOST 1048576: true; the input reads as it did. -/
def frameUniqueUptoRow : OpenClaim := { program := "yteljmmdbgnjflaa", sum := "214d2a95ca4ee43928a8b5616146dd941e8455519bd6fce34fd3ecd2d694c3eb", func := "linkhouse/linkhouselaw2.FrameUnique", spec := "frameUnique", unfollowed := true, recurses := true, apart := false, narrowed := true }
def FrameUniqueUptoSaid : Prop := frameUniqueUptoRow.holds Try.pinned (OpenSpec.upto frameUniqueSpec)

/-- 'linkhouselaw2.FrameBlocksFollow', WHERE WHAT IT READS IS OF BULK AT MOST 1048576: true; the input reads as it did. -/
def frameBlocksFollowUptoRow : OpenClaim := { program := "yteljmmdbgnjflaa", sum := "214d2a95ca4ee43928a8b5616146dd941e8455519bd6fce34fd3ecd2d694c3eb", func := "linkhouse/linkhouselaw2.FrameBlocksFollow", spec := "frameBlocksFollow", unfollowed := true, recurses := true, apart := false, narrowed := true }
def FrameBlocksFollowUptoSaid : Prop := frameBlocksFollowUptoRow.holds Try.pinned (OpenSpec.upto frameBlocksFollowSpec)

end Rows
end Go.Proofs.Yteljmmdbgnjflaa
