/-
  No cell of these rows narrows 'for every input' (looked for: loops, veiled, ifaces, maps, wideKeys, modest, calm, conditions, laid).
  DERIVED. THE GIVEN ROWS OF THIS SEAT. 6 by the template 'for every input the law returns true; each argument reads behind the call as it read before'; 0 by the template 'total and deterministic' (their statements: YtafncdbkbmaifaaTotals.lean).
  GIVEN WITH THE SEED: the statements are not yours to turn. If you find one false, say at which input.
  Laid BY PROGRAM, IN A SANDBOX (cutbox-rows.mjs): the forced cells as the released guide's own fill.sh prints them over the translation ffbabc085201c48f… (all of the seat's roots in one cut). By AI agents, Wed Nov 11 2026. No macro, syntax, notation, axiom, sorry.
-/
import Derived.Test.YtafncdbkbmaifaaChecked
import GoSem.Claim
import GoSem.ClaimJoined
import GoSem.ClaimMapViews
import Derived.JoinedTies
import Derived.KernelRfl
namespace Go.Proofs.Ytafncdbkbmaifaa
/- THE CELL 'sum', in the pinned program and in every row, IS THE sha256 OF THE DUMP (.gsa) THAT YtafncdbkbmaifaaProg.lean LOADS. Nothing in Lean hashes anything: it is a label: what it is worth is what the hold of that sum in a sandbox is worth. -/
noncomputable def Try.pinned : Pinned := { name := "ytafncdbkbmaifaa", sum := "ffbabc085201c48f00b8b91022c114c4933f74c5651c206ce3f4f654d8f9cb24", checked := Try.checked }
namespace Rows
def none {H : Type} : Left H := { results := [], args := [] }

/-- 'undergrowthlaw3.RegexParses': WHATEVER THE INPUT: true; the input reads as it did. -/
def regexParsesSpec : ChangeSpec := { name := "regexParses", fn := fun _ => fun
  | [d] => { results := [.lit (.bool true)], args := [d] }
  | _ => none }
def regexParsesRow : OpenClaim := { program := "ytafncdbkbmaifaa", sum := "ffbabc085201c48f00b8b91022c114c4933f74c5651c206ce3f4f654d8f9cb24", func := "undergrowth/undergrowthlaw3.RegexParses", spec := "regexParses", inPlace := ["internal/bytealg.IndexByteString"], recurses := true, apart := false }
def RegexParsesSaid : Prop := regexParsesRow.holds Try.pinned (OpenSpec.ofChange regexParsesSpec)

/-- ITS FALSE NEIGHBOUR: 'it returns false'. Refute it at one input. -/
def regexParsesWrong : ChangeSpec := { name := "regexParses", fn := fun _ => fun
  | [d] => { results := [.lit (.bool false)], args := [d] }
  | _ => none }
def RegexParsesWrongFalsely : Prop := regexParsesRow.holds Try.pinned (OpenSpec.ofChange regexParsesWrong)

/-- 'undergrowthlaw3.RegexHas': WHATEVER THE INPUT: true; the input reads as it did. -/
def regexHasSpec : ChangeSpec := { name := "regexHas", fn := fun _ => fun
  | [d1, d2, d3, d4, d5] => { results := [.lit (.bool true)], args := [d1, d2, d3, d4, d5] }
  | _ => none }
def regexHasRow : OpenClaim := { program := "ytafncdbkbmaifaa", sum := "ffbabc085201c48f00b8b91022c114c4933f74c5651c206ce3f4f654d8f9cb24", func := "undergrowth/undergrowthlaw3.RegexHas", spec := "regexHas", inPlace := ["internal/bytealg.IndexByteString"], recurses := true, apart := false }
def RegexHasSaid : Prop := regexHasRow.holds Try.pinned (OpenSpec.ofChange regexHasSpec)

/-- ITS FALSE NEIGHBOUR: 'it returns false'. Refute it at one input. -/
def regexHasWrong : ChangeSpec := { name := "regexHas", fn := fun _ => fun
  | [d1, d2, d3, d4, d5] => { results := [.lit (.bool false)], args := [d1, d2, d3, d4, d5] }
  | _ => none }
def RegexHasWrongFalsely : Prop := regexHasRow.holds Try.pinned (OpenSpec.ofChange regexHasWrong)

/-- 'undergrowthlaw3.RegexWrong': WHATEVER THE INPUT: true; the input reads as it did. -/
def regexWrongSpec : ChangeSpec := { name := "regexWrong", fn := fun _ => fun
  | [d] => { results := [.lit (.bool true)], args := [d] }
  | _ => none }
def regexWrongRow : OpenClaim := { program := "ytafncdbkbmaifaa", sum := "ffbabc085201c48f00b8b91022c114c4933f74c5651c206ce3f4f654d8f9cb24", func := "undergrowth/undergrowthlaw3.RegexWrong", spec := "regexWrong", inPlace := ["internal/bytealg.IndexByteString"], recurses := true, apart := false }
def RegexWrongSaid : Prop := regexWrongRow.holds Try.pinned (OpenSpec.ofChange regexWrongSpec)

/-- ITS FALSE NEIGHBOUR: 'it returns false'. Refute it at one input. -/
def regexWrongWrong : ChangeSpec := { name := "regexWrong", fn := fun _ => fun
  | [d] => { results := [.lit (.bool false)], args := [d] }
  | _ => none }
def RegexWrongWrongFalsely : Prop := regexWrongRow.holds Try.pinned (OpenSpec.ofChange regexWrongWrong)

/-- 'undergrowthlaw3.RegexDeep': WHATEVER THE INPUT: true; the input reads as it did. -/
def regexDeepSpec : ChangeSpec := { name := "regexDeep", fn := fun _ => fun
  | [d] => { results := [.lit (.bool true)], args := [d] }
  | _ => none }
def regexDeepRow : OpenClaim := { program := "ytafncdbkbmaifaa", sum := "ffbabc085201c48f00b8b91022c114c4933f74c5651c206ce3f4f654d8f9cb24", func := "undergrowth/undergrowthlaw3.RegexDeep", spec := "regexDeep", inPlace := ["internal/bytealg.IndexByteString"], recurses := true, apart := false }
def RegexDeepSaid : Prop := regexDeepRow.holds Try.pinned (OpenSpec.ofChange regexDeepSpec)

/-- ITS FALSE NEIGHBOUR: 'it returns false'. Refute it at one input. -/
def regexDeepWrong : ChangeSpec := { name := "regexDeep", fn := fun _ => fun
  | [d] => { results := [.lit (.bool false)], args := [d] }
  | _ => none }
def RegexDeepWrongFalsely : Prop := regexDeepRow.holds Try.pinned (OpenSpec.ofChange regexDeepWrong)

/-- 'undergrowthlaw3.RegexRanges': WHATEVER THE INPUT: true; the input reads as it did. -/
def regexRangesSpec : ChangeSpec := { name := "regexRanges", fn := fun _ => fun
  | [d1, d2, d3] => { results := [.lit (.bool true)], args := [d1, d2, d3] }
  | _ => none }
def regexRangesRow : OpenClaim := { program := "ytafncdbkbmaifaa", sum := "ffbabc085201c48f00b8b91022c114c4933f74c5651c206ce3f4f654d8f9cb24", func := "undergrowth/undergrowthlaw3.RegexRanges", spec := "regexRanges", inPlace := ["internal/bytealg.IndexByteString"], recurses := true, apart := false }
def RegexRangesSaid : Prop := regexRangesRow.holds Try.pinned (OpenSpec.ofChange regexRangesSpec)

/-- ITS FALSE NEIGHBOUR: 'it returns false'. Refute it at one input. -/
def regexRangesWrong : ChangeSpec := { name := "regexRanges", fn := fun _ => fun
  | [d1, d2, d3] => { results := [.lit (.bool false)], args := [d1, d2, d3] }
  | _ => none }
def RegexRangesWrongFalsely : Prop := regexRangesRow.holds Try.pinned (OpenSpec.ofChange regexRangesWrong)

/-- 'undergrowthlaw3.RegexBytes': WHATEVER THE INPUT: true; the input reads as it did. -/
def regexBytesSpec : ChangeSpec := { name := "regexBytes", fn := fun _ => fun
  | [d] => { results := [.lit (.bool true)], args := [d] }
  | _ => none }
def regexBytesRow : OpenClaim := { program := "ytafncdbkbmaifaa", sum := "ffbabc085201c48f00b8b91022c114c4933f74c5651c206ce3f4f654d8f9cb24", func := "undergrowth/undergrowthlaw3.RegexBytes", spec := "regexBytes", inPlace := ["internal/bytealg.IndexByteString", "internal/abi.NoEscape"], recurses := true, apart := false }
def RegexBytesSaid : Prop := regexBytesRow.holds Try.pinned (OpenSpec.ofChange regexBytesSpec)

/-- ITS FALSE NEIGHBOUR: 'it returns false'. Refute it at one input. -/
def regexBytesWrong : ChangeSpec := { name := "regexBytes", fn := fun _ => fun
  | [d] => { results := [.lit (.bool false)], args := [d] }
  | _ => none }
def RegexBytesWrongFalsely : Prop := regexBytesRow.holds Try.pinned (OpenSpec.ofChange regexBytesWrong)

/- THE SECOND FORM. 'bulk': how many values and letters a reading holds, each counted each time it is reached (what is shared counts as often as it is met; a slice's spare places count too). A statement '..UptoSaid' is the law's where the arguments, and the package variables that the reading takes, are together of bulk at most 1048576: NARROWER than '..Said'. Prove '..Said' where nothing that the law and all that it calls make is longer than what came in: it says more and counts as full. Else prove '..UptoSaid'. A law counts once. -/
mutual
def uptoBulk {H : Type} : DataW H → Nat
  | .lit (.string bytes) => bytes.length + 1
  | .lit _ => 1
  | .nil => 1
  | .ptr d => uptoBulk d + 1
  | .slice elems spare => uptoBulkAll elems + uptoBulkAll spare + 1
  | .agg parts => uptoBulkAll parts + 1
  | .iface _ d => uptoBulk d + 1
  | .map entries => uptoBulkEntries entries + 1
  | .held _ => 1
def uptoBulkAll {H : Type} : List (DataW H) → Nat
  | [] => 0
  | d :: r => uptoBulk d + uptoBulkAll r
def uptoBulkEntries {H : Type} : List (Lit × DataW H) → Nat
  | [] => 0
  | x :: r => uptoBulkEntry x + uptoBulkEntries r
def uptoBulkEntry {H : Type} : Lit × DataW H → Nat
  | (.string bytes, d) => bytes.length + uptoBulk d + 1
  | (_, d) => uptoBulk d + 1
 end
def uptoSmall : (H : Type) → List (DataW H) → Bool := fun _ ds => decide (uptoBulkAll ds ≤ 1048576)
def OpenSpec.upto (s : _root_.Go.ChangeSpec) : _root_.Go.OpenSpec := { _root_.Go.OpenSpec.ofChange s with cond := some uptoSmall }

/-- 'undergrowthlaw3.RegexParses', WHERE WHAT IT READS IS OF BULK AT MOST 1048576: true; the input reads as it did. -/
def regexParsesUptoRow : OpenClaim := { program := "ytafncdbkbmaifaa", sum := "ffbabc085201c48f00b8b91022c114c4933f74c5651c206ce3f4f654d8f9cb24", func := "undergrowth/undergrowthlaw3.RegexParses", spec := "regexParses", inPlace := ["internal/bytealg.IndexByteString"], recurses := true, apart := false, narrowed := true }
def RegexParsesUptoSaid : Prop := regexParsesUptoRow.holds Try.pinned (OpenSpec.upto regexParsesSpec)

/-- 'undergrowthlaw3.RegexHas', WHERE WHAT IT READS IS OF BULK AT MOST 1048576: true; the input reads as it did. -/
def regexHasUptoRow : OpenClaim := { program := "ytafncdbkbmaifaa", sum := "ffbabc085201c48f00b8b91022c114c4933f74c5651c206ce3f4f654d8f9cb24", func := "undergrowth/undergrowthlaw3.RegexHas", spec := "regexHas", inPlace := ["internal/bytealg.IndexByteString"], recurses := true, apart := false, narrowed := true }
def RegexHasUptoSaid : Prop := regexHasUptoRow.holds Try.pinned (OpenSpec.upto regexHasSpec)

/-- 'undergrowthlaw3.RegexWrong', WHERE WHAT IT READS IS OF BULK AT MOST 1048576: true; the input reads as it did. -/
def regexWrongUptoRow : OpenClaim := { program := "ytafncdbkbmaifaa", sum := "ffbabc085201c48f00b8b91022c114c4933f74c5651c206ce3f4f654d8f9cb24", func := "undergrowth/undergrowthlaw3.RegexWrong", spec := "regexWrong", inPlace := ["internal/bytealg.IndexByteString"], recurses := true, apart := false, narrowed := true }
def RegexWrongUptoSaid : Prop := regexWrongUptoRow.holds Try.pinned (OpenSpec.upto regexWrongSpec)

/-- 'undergrowthlaw3.RegexDeep', WHERE WHAT IT READS IS OF BULK AT MOST 1048576: true; the input reads as it did. -/
def regexDeepUptoRow : OpenClaim := { program := "ytafncdbkbmaifaa", sum := "ffbabc085201c48f00b8b91022c114c4933f74c5651c206ce3f4f654d8f9cb24", func := "undergrowth/undergrowthlaw3.RegexDeep", spec := "regexDeep", inPlace := ["internal/bytealg.IndexByteString"], recurses := true, apart := false, narrowed := true }
def RegexDeepUptoSaid : Prop := regexDeepUptoRow.holds Try.pinned (OpenSpec.upto regexDeepSpec)

/-- 'undergrowthlaw3.RegexRanges', WHERE WHAT IT READS IS OF BULK AT MOST 1048576: true; the input reads as it did. -/
def regexRangesUptoRow : OpenClaim := { program := "ytafncdbkbmaifaa", sum := "ffbabc085201c48f00b8b91022c114c4933f74c5651c206ce3f4f654d8f9cb24", func := "undergrowth/undergrowthlaw3.RegexRanges", spec := "regexRanges", inPlace := ["internal/bytealg.IndexByteString"], recurses := true, apart := false, narrowed := true }
def RegexRangesUptoSaid : Prop := regexRangesUptoRow.holds Try.pinned (OpenSpec.upto regexRangesSpec)

/-- 'undergrowthlaw3.RegexBytes', WHERE WHAT IT READS IS OF BULK AT MOST 1048576: true; the input reads as it did. -/
def regexBytesUptoRow : OpenClaim := { program := "ytafncdbkbmaifaa", sum := "ffbabc085201c48f00b8b91022c114c4933f74c5651c206ce3f4f654d8f9cb24", func := "undergrowth/undergrowthlaw3.RegexBytes", spec := "regexBytes", inPlace := ["internal/bytealg.IndexByteString", "internal/abi.NoEscape"], recurses := true, apart := false, narrowed := true }
def RegexBytesUptoSaid : Prop := regexBytesUptoRow.holds Try.pinned (OpenSpec.upto regexBytesSpec)

end Rows
end Go.Proofs.Ytafncdbkbmaifaa
