/-
  No cell of these rows narrows 'for every input' (looked for: loops, veiled, ifaces, maps, wideKeys, modest, calm, conditions, laid).
  DERIVED. THE GIVEN ROWS OF THIS SEAT. 7 by the template 'for every input the law returns true; each argument reads behind the call as it read before'; 0 by the template 'total and deterministic' (their statements: YtpmlcmdojmdmhaaTotals.lean).
  GIVEN WITH THE SEED: the statements are not yours to turn. If you find one false, say at which input.
  Laid BY PROGRAM, IN A SANDBOX (cutbox-rows.mjs): the forced cells as the released guide's own fill.sh prints them over the translation d1ab1b7d731a05cb… (all of the seat's roots in one cut). By AI agents, Wed Nov 11 2026. No macro, syntax, notation, axiom, sorry.
-/
import Derived.Test.YtpmlcmdojmdmhaaChecked
import GoSem.Claim
import GoSem.ClaimJoined
import GoSem.ClaimMapViews
import Derived.JoinedTies
import Derived.KernelRfl
namespace Go.Proofs.Ytpmlcmdojmdmhaa
/- THE CELL 'sum', in the pinned program and in every row, IS THE sha256 OF THE DUMP (.gsa) THAT YtpmlcmdojmdmhaaProg.lean LOADS. Nothing in Lean hashes anything: it is a label: what it is worth is what the hold of that sum in a sandbox is worth. -/
noncomputable def Try.pinned : Pinned := { name := "ytpmlcmdojmdmhaa", sum := "d1ab1b7d731a05cb1385792bc7a9e441a6143d8b95c1cf2203736e217d805d08", checked := Try.checked }
namespace Rows
def none {H : Type} : Left H := { results := [], args := [] }

/-- 'linkhouselaw2.RecordsValidateMatchesSpec': WHATEVER THE INPUT: true; the input reads as it did. -/
def recordsValidateMatchesSpecSpec : ChangeSpec := { name := "recordsValidateMatchesSpec", fn := fun _ => fun
  | [d1, d2] => { results := [.lit (.bool true)], args := [d1, d2] }
  | _ => none }
def recordsValidateMatchesSpecRow : OpenClaim := { program := "ytpmlcmdojmdmhaa", sum := "d1ab1b7d731a05cb1385792bc7a9e441a6143d8b95c1cf2203736e217d805d08", func := "linkhouse/linkhouselaw2.RecordsValidateMatchesSpec", spec := "recordsValidateMatchesSpec", unfollowed := true, recurses := true, apart := false }
def RecordsValidateMatchesSpecSaid : Prop := recordsValidateMatchesSpecRow.holds Try.pinned (OpenSpec.ofChange recordsValidateMatchesSpecSpec)

/-- ITS FALSE NEIGHBOUR: 'it returns false'. Refute it at one input. -/
def recordsValidateMatchesSpecWrong : ChangeSpec := { name := "recordsValidateMatchesSpec", fn := fun _ => fun
  | [d1, d2] => { results := [.lit (.bool false)], args := [d1, d2] }
  | _ => none }
def RecordsValidateMatchesSpecWrongFalsely : Prop := recordsValidateMatchesSpecRow.holds Try.pinned (OpenSpec.ofChange recordsValidateMatchesSpecWrong)

/-- 'linkhouselaw2.RecordsPathMatchesSpec': WHATEVER THE INPUT: true; the input reads as it did. -/
def recordsPathMatchesSpecSpec : ChangeSpec := { name := "recordsPathMatchesSpec", fn := fun _ => fun
  | [d1, d2, d3] => { results := [.lit (.bool true)], args := [d1, d2, d3] }
  | _ => none }
def recordsPathMatchesSpecRow : OpenClaim := { program := "ytpmlcmdojmdmhaa", sum := "d1ab1b7d731a05cb1385792bc7a9e441a6143d8b95c1cf2203736e217d805d08", func := "linkhouse/linkhouselaw2.RecordsPathMatchesSpec", spec := "recordsPathMatchesSpec", unfollowed := true, recurses := true, apart := false }
def RecordsPathMatchesSpecSaid : Prop := recordsPathMatchesSpecRow.holds Try.pinned (OpenSpec.ofChange recordsPathMatchesSpecSpec)

/-- ITS FALSE NEIGHBOUR: 'it returns false'. Refute it at one input. -/
def recordsPathMatchesSpecWrong : ChangeSpec := { name := "recordsPathMatchesSpec", fn := fun _ => fun
  | [d1, d2, d3] => { results := [.lit (.bool false)], args := [d1, d2, d3] }
  | _ => none }
def RecordsPathMatchesSpecWrongFalsely : Prop := recordsPathMatchesSpecRow.holds Try.pinned (OpenSpec.ofChange recordsPathMatchesSpecWrong)

/-- 'linkhouselaw2.RecordsPathsCompose': WHATEVER THE INPUT: true; the input reads as it did. -/
def recordsPathsComposeSpec : ChangeSpec := { name := "recordsPathsCompose", fn := fun _ => fun
  | [d1, d2, d3, d4] => { results := [.lit (.bool true)], args := [d1, d2, d3, d4] }
  | _ => none }
def recordsPathsComposeRow : OpenClaim := { program := "ytpmlcmdojmdmhaa", sum := "d1ab1b7d731a05cb1385792bc7a9e441a6143d8b95c1cf2203736e217d805d08", func := "linkhouse/linkhouselaw2.RecordsPathsCompose", spec := "recordsPathsCompose", unfollowed := true, recurses := true, apart := false }
def RecordsPathsComposeSaid : Prop := recordsPathsComposeRow.holds Try.pinned (OpenSpec.ofChange recordsPathsComposeSpec)

/-- ITS FALSE NEIGHBOUR: 'it returns false'. Refute it at one input. -/
def recordsPathsComposeWrong : ChangeSpec := { name := "recordsPathsCompose", fn := fun _ => fun
  | [d1, d2, d3, d4] => { results := [.lit (.bool false)], args := [d1, d2, d3, d4] }
  | _ => none }
def RecordsPathsComposeWrongFalsely : Prop := recordsPathsComposeRow.holds Try.pinned (OpenSpec.ofChange recordsPathsComposeWrong)

/-- 'linkhouselaw2.RecordsSameMatchesSpec': WHATEVER THE INPUT: true; the input reads as it did. -/
def recordsSameMatchesSpecSpec : ChangeSpec := { name := "recordsSameMatchesSpec", fn := fun _ => fun
  | [d1, d2, d3, d4] => { results := [.lit (.bool true)], args := [d1, d2, d3, d4] }
  | _ => none }
def recordsSameMatchesSpecRow : OpenClaim := { program := "ytpmlcmdojmdmhaa", sum := "d1ab1b7d731a05cb1385792bc7a9e441a6143d8b95c1cf2203736e217d805d08", func := "linkhouse/linkhouselaw2.RecordsSameMatchesSpec", spec := "recordsSameMatchesSpec", unfollowed := true, recurses := true, apart := false }
def RecordsSameMatchesSpecSaid : Prop := recordsSameMatchesSpecRow.holds Try.pinned (OpenSpec.ofChange recordsSameMatchesSpecSpec)

/-- ITS FALSE NEIGHBOUR: 'it returns false'. Refute it at one input. -/
def recordsSameMatchesSpecWrong : ChangeSpec := { name := "recordsSameMatchesSpec", fn := fun _ => fun
  | [d1, d2, d3, d4] => { results := [.lit (.bool false)], args := [d1, d2, d3, d4] }
  | _ => none }
def RecordsSameMatchesSpecWrongFalsely : Prop := recordsSameMatchesSpecRow.holds Try.pinned (OpenSpec.ofChange recordsSameMatchesSpecWrong)

/-- 'linkhouselaw2.RecordsEquivalence': WHATEVER THE INPUT: true; the input reads as it did. -/
def recordsEquivalenceSpec : ChangeSpec := { name := "recordsEquivalence", fn := fun _ => fun
  | [d1, d2, d3, d4] => { results := [.lit (.bool true)], args := [d1, d2, d3, d4] }
  | _ => none }
def recordsEquivalenceRow : OpenClaim := { program := "ytpmlcmdojmdmhaa", sum := "d1ab1b7d731a05cb1385792bc7a9e441a6143d8b95c1cf2203736e217d805d08", func := "linkhouse/linkhouselaw2.RecordsEquivalence", spec := "recordsEquivalence", unfollowed := true, recurses := true, apart := false }
def RecordsEquivalenceSaid : Prop := recordsEquivalenceRow.holds Try.pinned (OpenSpec.ofChange recordsEquivalenceSpec)

/-- ITS FALSE NEIGHBOUR: 'it returns false'. Refute it at one input. -/
def recordsEquivalenceWrong : ChangeSpec := { name := "recordsEquivalence", fn := fun _ => fun
  | [d1, d2, d3, d4] => { results := [.lit (.bool false)], args := [d1, d2, d3, d4] }
  | _ => none }
def RecordsEquivalenceWrongFalsely : Prop := recordsEquivalenceRow.holds Try.pinned (OpenSpec.ofChange recordsEquivalenceWrong)

/-- 'linkhouselaw2.RecordsMergeMatchesSpec': WHATEVER THE INPUT: true; the input reads as it did. -/
def recordsMergeMatchesSpecSpec : ChangeSpec := { name := "recordsMergeMatchesSpec", fn := fun _ => fun
  | [d1, d2] => { results := [.lit (.bool true)], args := [d1, d2] }
  | _ => none }
def recordsMergeMatchesSpecRow : OpenClaim := { program := "ytpmlcmdojmdmhaa", sum := "d1ab1b7d731a05cb1385792bc7a9e441a6143d8b95c1cf2203736e217d805d08", func := "linkhouse/linkhouselaw2.RecordsMergeMatchesSpec", spec := "recordsMergeMatchesSpec", unfollowed := true, recurses := true, apart := false }
def RecordsMergeMatchesSpecSaid : Prop := recordsMergeMatchesSpecRow.holds Try.pinned (OpenSpec.ofChange recordsMergeMatchesSpecSpec)

/-- ITS FALSE NEIGHBOUR: 'it returns false'. Refute it at one input. -/
def recordsMergeMatchesSpecWrong : ChangeSpec := { name := "recordsMergeMatchesSpec", fn := fun _ => fun
  | [d1, d2] => { results := [.lit (.bool false)], args := [d1, d2] }
  | _ => none }
def RecordsMergeMatchesSpecWrongFalsely : Prop := recordsMergeMatchesSpecRow.holds Try.pinned (OpenSpec.ofChange recordsMergeMatchesSpecWrong)

/-- 'linkhouselaw2.RecordsMergeKeeps': WHATEVER THE INPUT: true; the input reads as it did. -/
def recordsMergeKeepsSpec : ChangeSpec := { name := "recordsMergeKeeps", fn := fun _ => fun
  | [d1, d2, d3] => { results := [.lit (.bool true)], args := [d1, d2, d3] }
  | _ => none }
def recordsMergeKeepsRow : OpenClaim := { program := "ytpmlcmdojmdmhaa", sum := "d1ab1b7d731a05cb1385792bc7a9e441a6143d8b95c1cf2203736e217d805d08", func := "linkhouse/linkhouselaw2.RecordsMergeKeeps", spec := "recordsMergeKeeps", unfollowed := true, recurses := true, apart := false }
def RecordsMergeKeepsSaid : Prop := recordsMergeKeepsRow.holds Try.pinned (OpenSpec.ofChange recordsMergeKeepsSpec)

/-- ITS FALSE NEIGHBOUR: 'it returns false'. Refute it at one input. -/
def recordsMergeKeepsWrong : ChangeSpec := { name := "recordsMergeKeeps", fn := fun _ => fun
  | [d1, d2, d3] => { results := [.lit (.bool false)], args := [d1, d2, d3] }
  | _ => none }
def RecordsMergeKeepsWrongFalsely : Prop := recordsMergeKeepsRow.holds Try.pinned (OpenSpec.ofChange recordsMergeKeepsWrong)

/- THE SECOND FORM. 'bulk': how many values and letters a reading holds, each counted each time it is reached (what is shared counts as often as it is met; a slice's spare places count too). A statement '..UptoSaid' is the law's where the arguments, and the package variables that the reading takes, are together of bulk at most 1048576: NARROWER than '..Said'. Prove '..Said' where nothing that the law and all that it calls make is longer than what came in: it says more and counts as full. Else prove '..UptoSaid'. A law counts once. -/
mutual
def uptoBulk {H : Type} : DataW H → Nat
  | .lit (.string bytes) => bytes.length + 1
  | .lit _ => 1
  | .nil => 1
  | .ptr d => uptoBulk d + 1
  | .slice elems spare => uptoBulkAll elems + uptoBulkAll spare + 1
  | .agg parts => uptoBulkAll parts + 1
  | .iface _ d => uptoBulk d + 1
  | .map entries => uptoBulkEntries entries + 1
  | .held _ => 1
def uptoBulkAll {H : Type} : List (DataW H) → Nat
  | [] => 0
  | d :: r => uptoBulk d + uptoBulkAll r
def uptoBulkEntries {H : Type} : List (Lit × DataW H) → Nat
  | [] => 0
  | x :: r => uptoBulkEntry x + uptoBulkEntries r
def uptoBulkEntry {H : Type} : Lit × DataW H → Nat
  | (.string bytes, d) => bytes.length + uptoBulk d + 1
  | (_, d) => uptoBulk d + 1
 end
def uptoSmall : (H : Type) → List (DataW H) → Bool := fun _ ds => decide (uptoBulkAll ds ≤ 1048576)
def OpenSpec.upto (s : _root_.Go.ChangeSpec) : _root_.Go.OpenSpec := { _root_.Go.OpenSpec.ofChange s with cond := some uptoSmall }

/-- 'linkhouselaw2.RecordsValidateMatchesSpec', WHERE WHAT IT READS IS OF BULK AT MOST 1048576: true; the input reads as it did. -/
def recordsValidateMatchesSpecUptoRow : OpenClaim := { program := "ytpmlcmdojmdmhaa", sum := "d1ab1b7d731a05cb1385792bc7a9e441a6143d8b95c1cf2203736e217d805d08", func := "linkhouse/linkhouselaw2.RecordsValidateMatchesSpec", spec := "recordsValidateMatchesSpec", unfollowed := true, recurses := true, apart := false, narrowed := true }
def RecordsValidateMatchesSpecUptoSaid : Prop := recordsValidateMatchesSpecUptoRow.holds Try.pinned (OpenSpec.upto recordsValidateMatchesSpecSpec)

/-- 'linkhouselaw2.RecordsPathMatchesSpec', WHERE WHAT IT READS IS OF BULK AT MOST 1048576: true; the input reads as it did. -/
def recordsPathMatchesSpecUptoRow : OpenClaim := { program := "ytpmlcmdojmdmhaa", sum := "d1ab1b7d731a05cb1385792bc7a9e441a6143d8b95c1cf2203736e217d805d08", func := "linkhouse/linkhouselaw2.RecordsPathMatchesSpec", spec := "recordsPathMatchesSpec", unfollowed := true, recurses := true, apart := false, narrowed := true }
def RecordsPathMatchesSpecUptoSaid : Prop := recordsPathMatchesSpecUptoRow.holds Try.pinned (OpenSpec.upto recordsPathMatchesSpecSpec)

/-- 'linkhouselaw2.RecordsPathsCompose', WHERE WHAT IT READS IS OF BULK AT MOST 1048576: true; the input reads as it did. -/
def recordsPathsComposeUptoRow : OpenClaim := { program := "ytpmlcmdojmdmhaa", sum := "d1ab1b7d731a05cb1385792bc7a9e441a6143d8b95c1cf2203736e217d805d08", func := "linkhouse/linkhouselaw2.RecordsPathsCompose", spec := "recordsPathsCompose", unfollowed := true, recurses := true, apart := false, narrowed := true }
def RecordsPathsComposeUptoSaid : Prop := recordsPathsComposeUptoRow.holds Try.pinned (OpenSpec.upto recordsPathsComposeSpec)

/-- 'linkhouselaw2.RecordsSameMatchesSpec', WHERE WHAT IT READS IS OF BULK AT MOST 1048576: true; the input reads as it did. -/
def recordsSameMatchesSpecUptoRow : OpenClaim := { program := "ytpmlcmdojmdmhaa", sum := "d1ab1b7d731a05cb1385792bc7a9e441a6143d8b95c1cf2203736e217d805d08", func := "linkhouse/linkhouselaw2.RecordsSameMatchesSpec", spec := "recordsSameMatchesSpec", unfollowed := true, recurses := true, apart := false, narrowed := true }
def RecordsSameMatchesSpecUptoSaid : Prop := recordsSameMatchesSpecUptoRow.holds Try.pinned (OpenSpec.upto recordsSameMatchesSpecSpec)

/-- 'linkhouselaw2.RecordsEquivalence', WHERE WHAT IT READS IS OF BULK AT MOST 1048576: true; the input reads as it did. -/
def recordsEquivalenceUptoRow : OpenClaim := { program := "ytpmlcmdojmdmhaa", sum := "d1ab1b7d731a05cb1385792bc7a9e441a6143d8b95c1cf2203736e217d805d08", func := "linkhouse/linkhouselaw2.RecordsEquivalence", spec := "recordsEquivalence", unfollowed := true, recurses := true, apart := false, narrowed := true }
def RecordsEquivalenceUptoSaid : Prop := recordsEquivalenceUptoRow.holds Try.pinned (OpenSpec.upto recordsEquivalenceSpec)

/-- 'linkhouselaw2.RecordsMergeMatchesSpec', WHERE WHAT IT READS IS OF BULK AT MOST 1048576: true; the input reads as it did. -/
def recordsMergeMatchesSpecUptoRow : OpenClaim := { program := "ytpmlcmdojmdmhaa", sum := "d1ab1b7d731a05cb1385792bc7a9e441a6143d8b95c1cf2203736e217d805d08", func := "linkhouse/linkhouselaw2.RecordsMergeMatchesSpec", spec := "recordsMergeMatchesSpec", unfollowed := true, recurses := true, apart := false, narrowed := true }
def RecordsMergeMatchesSpecUptoSaid : Prop := recordsMergeMatchesSpecUptoRow.holds Try.pinned (OpenSpec.upto recordsMergeMatchesSpecSpec)

/-- 'linkhouselaw2.RecordsMergeKeeps', WHERE WHAT IT READS IS OF BULK AT MOST 1048576: true; the input reads as it did. -/
def recordsMergeKeepsUptoRow : OpenClaim := { program := "ytpmlcmdojmdmhaa", sum := "d1ab1b7d731a05cb1385792bc7a9e441a6143d8b95c1cf2203736e217d805d08", func := "linkhouse/linkhouselaw2.RecordsMergeKeeps", spec := "recordsMergeKeeps", unfollowed := true, recurses := true, apart := false, narrowed := true }
def RecordsMergeKeepsUptoSaid : Prop := recordsMergeKeepsUptoRow.holds Try.pinned (OpenSpec.upto recordsMergeKeepsSpec)

end Rows
end Go.Proofs.Ytpmlcmdojmdmhaa
