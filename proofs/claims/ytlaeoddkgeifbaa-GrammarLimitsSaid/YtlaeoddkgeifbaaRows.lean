/-
  No cell of these rows narrows 'for every input' (looked for: loops, veiled, ifaces, maps, wideKeys, modest, calm, conditions, laid).
  DERIVED. THE GIVEN ROWS OF THIS SEAT. 11 by the template 'for every input the law returns true; each argument reads behind the call as it read before'; 0 by the template 'total and deterministic' (their statements: YtlaeoddkgeifbaaTotals.lean).
  GIVEN WITH THE SEED: the statements are not yours to turn. If you find one false, say at which input.
  Laid BY PROGRAM, IN A SANDBOX (cutbox-rows.mjs): the forced cells as the released guide's own fill.sh prints them over the translation 85c8909e37ca61c8… (all of the seat's roots in one cut). By AI agents, Wed Nov 11 2026. No macro, syntax, notation, axiom, sorry.
-/
import Derived.Test.YtlaeoddkgeifbaaChecked
import GoSem.Claim
import GoSem.ClaimJoined
import GoSem.ClaimMapViews
import Derived.JoinedTies
import Derived.KernelRfl
namespace Go.Proofs.Ytlaeoddkgeifbaa
/- THE CELL 'sum', in the pinned program and in every row, IS THE sha256 OF THE DUMP (.gsa) THAT YtlaeoddkgeifbaaProg.lean LOADS. Nothing in Lean hashes anything: it is a label: what it is worth is what the hold of that sum in a sandbox is worth. -/
noncomputable def Try.pinned : Pinned := { name := "ytlaeoddkgeifbaa", sum := "85c8909e37ca61c8a7ff91a34d572018eb9b1cb0b09e362fc1d45f7727b2c28c", checked := Try.checked }
namespace Rows
def none {H : Type} : Left H := { results := [], args := [] }

/-- 'undergrowthlaw6.ScanNext': WHATEVER THE INPUT: true; the input reads as it did. -/
def scanNextSpec : ChangeSpec := { name := "scanNext", fn := fun _ => fun
  | [d1, d2, d3] => { results := [.lit (.bool true)], args := [d1, d2, d3] }
  | _ => none }
def scanNextRow : OpenClaim := { program := "ytlaeoddkgeifbaa", sum := "85c8909e37ca61c8a7ff91a34d572018eb9b1cb0b09e362fc1d45f7727b2c28c", func := "undergrowth/undergrowthlaw6.ScanNext", spec := "scanNext", apart := false }
def ScanNextSaid : Prop := scanNextRow.holds Try.pinned (OpenSpec.ofChange scanNextSpec)

/-- ITS FALSE NEIGHBOUR: 'it returns false'. Refute it at one input. -/
def scanNextWrong : ChangeSpec := { name := "scanNext", fn := fun _ => fun
  | [d1, d2, d3] => { results := [.lit (.bool false)], args := [d1, d2, d3] }
  | _ => none }
def ScanNextWrongFalsely : Prop := scanNextRow.holds Try.pinned (OpenSpec.ofChange scanNextWrong)

/-- 'undergrowthlaw6.ScanLongest': WHATEVER THE INPUT: true; the input reads as it did. -/
def scanLongestSpec : ChangeSpec := { name := "scanLongest", fn := fun _ => fun
  | [d1, d2, d3, d4] => { results := [.lit (.bool true)], args := [d1, d2, d3, d4] }
  | _ => none }
def scanLongestRow : OpenClaim := { program := "ytlaeoddkgeifbaa", sum := "85c8909e37ca61c8a7ff91a34d572018eb9b1cb0b09e362fc1d45f7727b2c28c", func := "undergrowth/undergrowthlaw6.ScanLongest", spec := "scanLongest", recurses := true, apart := false }
def ScanLongestSaid : Prop := scanLongestRow.holds Try.pinned (OpenSpec.ofChange scanLongestSpec)

/-- ITS FALSE NEIGHBOUR: 'it returns false'. Refute it at one input. -/
def scanLongestWrong : ChangeSpec := { name := "scanLongest", fn := fun _ => fun
  | [d1, d2, d3, d4] => { results := [.lit (.bool false)], args := [d1, d2, d3, d4] }
  | _ => none }
def ScanLongestWrongFalsely : Prop := scanLongestRow.holds Try.pinned (OpenSpec.ofChange scanLongestWrong)

/-- 'undergrowthlaw6.ScanNone': WHATEVER THE INPUT: true; the input reads as it did. -/
def scanNoneSpec : ChangeSpec := { name := "scanNone", fn := fun _ => fun
  | [d1, d2] => { results := [.lit (.bool true)], args := [d1, d2] }
  | _ => none }
def scanNoneRow : OpenClaim := { program := "ytlaeoddkgeifbaa", sum := "85c8909e37ca61c8a7ff91a34d572018eb9b1cb0b09e362fc1d45f7727b2c28c", func := "undergrowth/undergrowthlaw6.ScanNone", spec := "scanNone", apart := false }
def ScanNoneSaid : Prop := scanNoneRow.holds Try.pinned (OpenSpec.ofChange scanNoneSpec)

/-- ITS FALSE NEIGHBOUR: 'it returns false'. Refute it at one input. -/
def scanNoneWrong : ChangeSpec := { name := "scanNone", fn := fun _ => fun
  | [d1, d2] => { results := [.lit (.bool false)], args := [d1, d2] }
  | _ => none }
def ScanNoneWrongFalsely : Prop := scanNoneRow.holds Try.pinned (OpenSpec.ofChange scanNoneWrong)

/-- 'undergrowthlaw1.SpliceMaps': WHATEVER THE INPUT: true; the input reads as it did. -/
def spliceMapsSpec : ChangeSpec := { name := "spliceMaps", fn := fun _ => fun
  | [d1, d2, d3] => { results := [.lit (.bool true)], args := [d1, d2, d3] }
  | _ => none }
def spliceMapsRow : OpenClaim := { program := "ytlaeoddkgeifbaa", sum := "85c8909e37ca61c8a7ff91a34d572018eb9b1cb0b09e362fc1d45f7727b2c28c", func := "undergrowth/undergrowthlaw1.SpliceMaps", spec := "spliceMaps", apart := false }
def SpliceMapsSaid : Prop := spliceMapsRow.holds Try.pinned (OpenSpec.ofChange spliceMapsSpec)

/-- ITS FALSE NEIGHBOUR: 'it returns false'. Refute it at one input. -/
def spliceMapsWrong : ChangeSpec := { name := "spliceMaps", fn := fun _ => fun
  | [d1, d2, d3] => { results := [.lit (.bool false)], args := [d1, d2, d3] }
  | _ => none }
def SpliceMapsWrongFalsely : Prop := spliceMapsRow.holds Try.pinned (OpenSpec.ofChange spliceMapsWrong)

/-- 'undergrowthlaw1.SpliceCuts': WHATEVER THE INPUT: true; the input reads as it did. -/
def spliceCutsSpec : ChangeSpec := { name := "spliceCuts", fn := fun _ => fun
  | [d1, d2] => { results := [.lit (.bool true)], args := [d1, d2] }
  | _ => none }
def spliceCutsRow : OpenClaim := { program := "ytlaeoddkgeifbaa", sum := "85c8909e37ca61c8a7ff91a34d572018eb9b1cb0b09e362fc1d45f7727b2c28c", func := "undergrowth/undergrowthlaw1.SpliceCuts", spec := "spliceCuts", apart := false }
def SpliceCutsSaid : Prop := spliceCutsRow.holds Try.pinned (OpenSpec.ofChange spliceCutsSpec)

/-- ITS FALSE NEIGHBOUR: 'it returns false'. Refute it at one input. -/
def spliceCutsWrong : ChangeSpec := { name := "spliceCuts", fn := fun _ => fun
  | [d1, d2] => { results := [.lit (.bool false)], args := [d1, d2] }
  | _ => none }
def SpliceCutsWrongFalsely : Prop := spliceCutsRow.holds Try.pinned (OpenSpec.ofChange spliceCutsWrong)

/-- 'undergrowthlaw1.SpliceTells': WHATEVER THE INPUT: true; the input reads as it did. -/
def spliceTellsSpec : ChangeSpec := { name := "spliceTells", fn := fun _ => fun
  | [d1, d2, d3, d4] => { results := [.lit (.bool true)], args := [d1, d2, d3, d4] }
  | _ => none }
def spliceTellsRow : OpenClaim := { program := "ytlaeoddkgeifbaa", sum := "85c8909e37ca61c8a7ff91a34d572018eb9b1cb0b09e362fc1d45f7727b2c28c", func := "undergrowth/undergrowthlaw1.SpliceTells", spec := "spliceTells", apart := false }
def SpliceTellsSaid : Prop := spliceTellsRow.holds Try.pinned (OpenSpec.ofChange spliceTellsSpec)

/-- ITS FALSE NEIGHBOUR: 'it returns false'. Refute it at one input. -/
def spliceTellsWrong : ChangeSpec := { name := "spliceTells", fn := fun _ => fun
  | [d1, d2, d3, d4] => { results := [.lit (.bool false)], args := [d1, d2, d3, d4] }
  | _ => none }
def SpliceTellsWrongFalsely : Prop := spliceTellsRow.holds Try.pinned (OpenSpec.ofChange spliceTellsWrong)

/-- 'undergrowthlaw1.SpliceBack': WHATEVER THE INPUT: true; the input reads as it did. -/
def spliceBackSpec : ChangeSpec := { name := "spliceBack", fn := fun _ => fun
  | [d1, d2] => { results := [.lit (.bool true)], args := [d1, d2] }
  | _ => none }
def spliceBackRow : OpenClaim := { program := "ytlaeoddkgeifbaa", sum := "85c8909e37ca61c8a7ff91a34d572018eb9b1cb0b09e362fc1d45f7727b2c28c", func := "undergrowth/undergrowthlaw1.SpliceBack", spec := "spliceBack", apart := false }
def SpliceBackSaid : Prop := spliceBackRow.holds Try.pinned (OpenSpec.ofChange spliceBackSpec)

/-- ITS FALSE NEIGHBOUR: 'it returns false'. Refute it at one input. -/
def spliceBackWrong : ChangeSpec := { name := "spliceBack", fn := fun _ => fun
  | [d1, d2] => { results := [.lit (.bool false)], args := [d1, d2] }
  | _ => none }
def SpliceBackWrongFalsely : Prop := spliceBackRow.holds Try.pinned (OpenSpec.ofChange spliceBackWrong)

/-- 'undergrowthlaw10.GrammarForm': WHATEVER THE INPUT: true; the input reads as it did. -/
def grammarFormSpec : ChangeSpec := { name := "grammarForm", fn := fun _ => fun
  | [d] => { results := [.lit (.bool true)], args := [d] }
  | _ => none }
def grammarFormRow : OpenClaim := { program := "ytlaeoddkgeifbaa", sum := "85c8909e37ca61c8a7ff91a34d572018eb9b1cb0b09e362fc1d45f7727b2c28c", func := "undergrowth/undergrowthlaw10.GrammarForm", spec := "grammarForm", unfollowed := true, recurses := true, apart := false }
def GrammarFormSaid : Prop := grammarFormRow.holds Try.pinned (OpenSpec.ofChange grammarFormSpec)

/-- ITS FALSE NEIGHBOUR: 'it returns false'. Refute it at one input. -/
def grammarFormWrong : ChangeSpec := { name := "grammarForm", fn := fun _ => fun
  | [d] => { results := [.lit (.bool false)], args := [d] }
  | _ => none }
def GrammarFormWrongFalsely : Prop := grammarFormRow.holds Try.pinned (OpenSpec.ofChange grammarFormWrong)

/-- 'undergrowthlaw10.GrammarLimits': WHATEVER THE INPUT: true; the input reads as it did. -/
def grammarLimitsSpec : ChangeSpec := { name := "grammarLimits", fn := fun _ => fun
  | [d1, d2] => { results := [.lit (.bool true)], args := [d1, d2] }
  | _ => none }
def grammarLimitsRow : OpenClaim := { program := "ytlaeoddkgeifbaa", sum := "85c8909e37ca61c8a7ff91a34d572018eb9b1cb0b09e362fc1d45f7727b2c28c", func := "undergrowth/undergrowthlaw10.GrammarLimits", spec := "grammarLimits", unfollowed := true, recurses := true, apart := false }
def GrammarLimitsSaid : Prop := grammarLimitsRow.holds Try.pinned (OpenSpec.ofChange grammarLimitsSpec)

/-- ITS FALSE NEIGHBOUR: 'it returns false'. Refute it at one input. -/
def grammarLimitsWrong : ChangeSpec := { name := "grammarLimits", fn := fun _ => fun
  | [d1, d2] => { results := [.lit (.bool false)], args := [d1, d2] }
  | _ => none }
def GrammarLimitsWrongFalsely : Prop := grammarLimitsRow.holds Try.pinned (OpenSpec.ofChange grammarLimitsWrong)

/-- 'undergrowthtop.TopNames': WHATEVER THE INPUT: true; the input reads as it did. -/
def topNamesSpec : ChangeSpec := { name := "topNames", fn := fun _ => fun
  | [] => { results := [.lit (.bool true)], args := [] }
  | _ => none }
def topNamesRow : OpenClaim := { program := "ytlaeoddkgeifbaa", sum := "85c8909e37ca61c8a7ff91a34d572018eb9b1cb0b09e362fc1d45f7727b2c28c", func := "undergrowth/undergrowthtop.TopNames", spec := "topNames", apart := false }
def TopNamesSaid : Prop := topNamesRow.holds Try.pinned (OpenSpec.ofChange topNamesSpec)

/-- ITS FALSE NEIGHBOUR: 'it returns false'. Refute it at one input. -/
def topNamesWrong : ChangeSpec := { name := "topNames", fn := fun _ => fun
  | [] => { results := [.lit (.bool false)], args := [] }
  | _ => none }
def TopNamesWrongFalsely : Prop := topNamesRow.holds Try.pinned (OpenSpec.ofChange topNamesWrong)

/-- 'undergrowthlaw10.GrammarForbids': WHATEVER THE INPUT: true; the input reads as it did. -/
def grammarForbidsSpec : ChangeSpec := { name := "grammarForbids", fn := fun _ => fun
  | [d1, d2, d3] => { results := [.lit (.bool true)], args := [d1, d2, d3] }
  | _ => none }
def grammarForbidsRow : OpenClaim := { program := "ytlaeoddkgeifbaa", sum := "85c8909e37ca61c8a7ff91a34d572018eb9b1cb0b09e362fc1d45f7727b2c28c", func := "undergrowth/undergrowthlaw10.GrammarForbids", spec := "grammarForbids", unfollowed := true, recurses := true, apart := false }
def GrammarForbidsSaid : Prop := grammarForbidsRow.holds Try.pinned (OpenSpec.ofChange grammarForbidsSpec)

/-- ITS FALSE NEIGHBOUR: 'it returns false'. Refute it at one input. -/
def grammarForbidsWrong : ChangeSpec := { name := "grammarForbids", fn := fun _ => fun
  | [d1, d2, d3] => { results := [.lit (.bool false)], args := [d1, d2, d3] }
  | _ => none }
def GrammarForbidsWrongFalsely : Prop := grammarForbidsRow.holds Try.pinned (OpenSpec.ofChange grammarForbidsWrong)

/- THE SECOND FORM. 'bulk': how many values and letters a reading holds, each counted each time it is reached (what is shared counts as often as it is met; a slice's spare places count too). A statement '..UptoSaid' is the law's where the arguments, and the package variables that the reading takes, are together of bulk at most 1048576: NARROWER than '..Said'. Prove '..Said' where nothing that the law and all that it calls make is longer than what came in: it says more and counts as full. Else prove '..UptoSaid'. A law counts once. -/
mutual
def uptoBulk {H : Type} : DataW H → Nat
  | .lit (.string bytes) => bytes.length + 1
  | .lit _ => 1
  | .nil => 1
  | .ptr d => uptoBulk d + 1
  | .slice elems spare => uptoBulkAll elems + uptoBulkAll spare + 1
  | .agg parts => uptoBulkAll parts + 1
  | .iface _ d => uptoBulk d + 1
  | .map entries => uptoBulkEntries entries + 1
  | .held _ => 1
def uptoBulkAll {H : Type} : List (DataW H) → Nat
  | [] => 0
  | d :: r => uptoBulk d + uptoBulkAll r
def uptoBulkEntries {H : Type} : List (Lit × DataW H) → Nat
  | [] => 0
  | x :: r => uptoBulkEntry x + uptoBulkEntries r
def uptoBulkEntry {H : Type} : Lit × DataW H → Nat
  | (.string bytes, d) => bytes.length + uptoBulk d + 1
  | (_, d) => uptoBulk d + 1
 end
def uptoSmall : (H : Type) → List (DataW H) → Bool := fun _ ds => decide (uptoBulkAll ds ≤ 1048576)
def OpenSpec.upto (s : _root_.Go.ChangeSpec) : _root_.Go.OpenSpec := { _root_.Go.OpenSpec.ofChange s with cond := some uptoSmall }

/-- 'undergrowthlaw6.ScanNext', WHERE WHAT IT READS IS OF BULK AT MOST 1048576: true; the input reads as it did. -/
def scanNextUptoRow : OpenClaim := { program := "ytlaeoddkgeifbaa", sum := "85c8909e37ca61c8a7ff91a34d572018eb9b1cb0b09e362fc1d45f7727b2c28c", func := "undergrowth/undergrowthlaw6.ScanNext", spec := "scanNext", apart := false, narrowed := true }
def ScanNextUptoSaid : Prop := scanNextUptoRow.holds Try.pinned (OpenSpec.upto scanNextSpec)

/-- 'undergrowthlaw6.ScanLongest', WHERE WHAT IT READS IS OF BULK AT MOST 1048576: true; the input reads as it did. -/
def scanLongestUptoRow : OpenClaim := { program := "ytlaeoddkgeifbaa", sum := "85c8909e37ca61c8a7ff91a34d572018eb9b1cb0b09e362fc1d45f7727b2c28c", func := "undergrowth/undergrowthlaw6.ScanLongest", spec := "scanLongest", recurses := true, apart := false, narrowed := true }
def ScanLongestUptoSaid : Prop := scanLongestUptoRow.holds Try.pinned (OpenSpec.upto scanLongestSpec)

/-- 'undergrowthlaw6.ScanNone', WHERE WHAT IT READS IS OF BULK AT MOST 1048576: true; the input reads as it did. -/
def scanNoneUptoRow : OpenClaim := { program := "ytlaeoddkgeifbaa", sum := "85c8909e37ca61c8a7ff91a34d572018eb9b1cb0b09e362fc1d45f7727b2c28c", func := "undergrowth/undergrowthlaw6.ScanNone", spec := "scanNone", apart := false, narrowed := true }
def ScanNoneUptoSaid : Prop := scanNoneUptoRow.holds Try.pinned (OpenSpec.upto scanNoneSpec)

/-- 'undergrowthlaw1.SpliceMaps', WHERE WHAT IT READS IS OF BULK AT MOST 1048576: true; the input reads as it did. -/
def spliceMapsUptoRow : OpenClaim := { program := "ytlaeoddkgeifbaa", sum := "85c8909e37ca61c8a7ff91a34d572018eb9b1cb0b09e362fc1d45f7727b2c28c", func := "undergrowth/undergrowthlaw1.SpliceMaps", spec := "spliceMaps", apart := false, narrowed := true }
def SpliceMapsUptoSaid : Prop := spliceMapsUptoRow.holds Try.pinned (OpenSpec.upto spliceMapsSpec)

/-- 'undergrowthlaw1.SpliceCuts', WHERE WHAT IT READS IS OF BULK AT MOST 1048576: true; the input reads as it did. -/
def spliceCutsUptoRow : OpenClaim := { program := "ytlaeoddkgeifbaa", sum := "85c8909e37ca61c8a7ff91a34d572018eb9b1cb0b09e362fc1d45f7727b2c28c", func := "undergrowth/undergrowthlaw1.SpliceCuts", spec := "spliceCuts", apart := false, narrowed := true }
def SpliceCutsUptoSaid : Prop := spliceCutsUptoRow.holds Try.pinned (OpenSpec.upto spliceCutsSpec)

/-- 'undergrowthlaw1.SpliceTells', WHERE WHAT IT READS IS OF BULK AT MOST 1048576: true; the input reads as it did. -/
def spliceTellsUptoRow : OpenClaim := { program := "ytlaeoddkgeifbaa", sum := "85c8909e37ca61c8a7ff91a34d572018eb9b1cb0b09e362fc1d45f7727b2c28c", func := "undergrowth/undergrowthlaw1.SpliceTells", spec := "spliceTells", apart := false, narrowed := true }
def SpliceTellsUptoSaid : Prop := spliceTellsUptoRow.holds Try.pinned (OpenSpec.upto spliceTellsSpec)

/-- 'undergrowthlaw1.SpliceBack', WHERE WHAT IT READS IS OF BULK AT MOST 1048576: true; the input reads as it did. -/
def spliceBackUptoRow : OpenClaim := { program := "ytlaeoddkgeifbaa", sum := "85c8909e37ca61c8a7ff91a34d572018eb9b1cb0b09e362fc1d45f7727b2c28c", func := "undergrowth/undergrowthlaw1.SpliceBack", spec := "spliceBack", apart := false, narrowed := true }
def SpliceBackUptoSaid : Prop := spliceBackUptoRow.holds Try.pinned (OpenSpec.upto spliceBackSpec)

/-- 'undergrowthlaw10.GrammarForm', WHERE WHAT IT READS IS OF BULK AT MOST 1048576: true; the input reads as it did. -/
def grammarFormUptoRow : OpenClaim := { program := "ytlaeoddkgeifbaa", sum := "85c8909e37ca61c8a7ff91a34d572018eb9b1cb0b09e362fc1d45f7727b2c28c", func := "undergrowth/undergrowthlaw10.GrammarForm", spec := "grammarForm", unfollowed := true, recurses := true, apart := false, narrowed := true }
def GrammarFormUptoSaid : Prop := grammarFormUptoRow.holds Try.pinned (OpenSpec.upto grammarFormSpec)

/-- 'undergrowthlaw10.GrammarLimits', WHERE WHAT IT READS IS OF BULK AT MOST 1048576: true; the input reads as it did. -/
def grammarLimitsUptoRow : OpenClaim := { program := "ytlaeoddkgeifbaa", sum := "85c8909e37ca61c8a7ff91a34d572018eb9b1cb0b09e362fc1d45f7727b2c28c", func := "undergrowth/undergrowthlaw10.GrammarLimits", spec := "grammarLimits", unfollowed := true, recurses := true, apart := false, narrowed := true }
def GrammarLimitsUptoSaid : Prop := grammarLimitsUptoRow.holds Try.pinned (OpenSpec.upto grammarLimitsSpec)

/-- 'undergrowthtop.TopNames', WHERE WHAT IT READS IS OF BULK AT MOST 1048576: true; the input reads as it did. -/
def topNamesUptoRow : OpenClaim := { program := "ytlaeoddkgeifbaa", sum := "85c8909e37ca61c8a7ff91a34d572018eb9b1cb0b09e362fc1d45f7727b2c28c", func := "undergrowth/undergrowthtop.TopNames", spec := "topNames", apart := false, narrowed := true }
def TopNamesUptoSaid : Prop := topNamesUptoRow.holds Try.pinned (OpenSpec.upto topNamesSpec)

/-- 'undergrowthlaw10.GrammarForbids', WHERE WHAT IT READS IS OF BULK AT MOST 1048576: true; the input reads as it did. -/
def grammarForbidsUptoRow : OpenClaim := { program := "ytlaeoddkgeifbaa", sum := "85c8909e37ca61c8a7ff91a34d572018eb9b1cb0b09e362fc1d45f7727b2c28c", func := "undergrowth/undergrowthlaw10.GrammarForbids", spec := "grammarForbids", unfollowed := true, recurses := true, apart := false, narrowed := true }
def GrammarForbidsUptoSaid : Prop := grammarForbidsUptoRow.holds Try.pinned (OpenSpec.upto grammarForbidsSpec)

end Rows
end Go.Proofs.Ytlaeoddkgeifbaa
