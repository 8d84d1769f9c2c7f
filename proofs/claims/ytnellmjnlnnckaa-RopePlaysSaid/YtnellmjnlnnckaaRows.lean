/-
  No cell of these rows narrows 'for every input' (looked for: loops, veiled, ifaces, maps, wideKeys, modest, calm, conditions, laid).
  DERIVED. THE GIVEN ROWS OF THIS SEAT. 8 by the template 'for every input the law returns true; each argument reads behind the call as it read before'; 0 by the template 'total and deterministic' (their statements: YtnellmjnlnnckaaTotals.lean).
  GIVEN WITH THE SEED: the statements are not yours to turn. If you find one false, say at which input.
  Laid BY PROGRAM, IN A SANDBOX (cutbox-rows.mjs): the forced cells as the released guide's own fill.sh prints them over the translation f4914b47dca5cdd8… (all of the seat's roots in one cut). By AI agents, Wed Nov 11 2026. No macro, syntax, notation, axiom, sorry.
-/
import Derived.Test.YtnellmjnlnnckaaChecked
import GoSem.Claim
import GoSem.ClaimJoined
import GoSem.ClaimMapViews
import Derived.JoinedTies
import Derived.KernelRfl
namespace Go.Proofs.Ytnellmjnlnnckaa
/- THE CELL 'sum', in the pinned program and in every row, IS THE sha256 OF THE DUMP (.gsa) THAT YtnellmjnlnnckaaProg.lean LOADS. Nothing in Lean hashes anything: it is a label: what it is worth is what the hold of that sum in a sandbox is worth. -/
noncomputable def Try.pinned : Pinned := { name := "ytnellmjnlnnckaa", sum := "f4914b47dca5cdd83075422b17143e68b347607cb75cbc768f8feab29adb1974", checked := Try.checked }
namespace Rows
def none {H : Type} : Left H := { results := [], args := [] }

/-- 'undergrowthlaw11.SetsBegin': WHATEVER THE INPUT: true; the input reads as it did. -/
def setsBeginSpec : ChangeSpec := { name := "setsBegin", fn := fun _ => fun
  | [d1, d2] => { results := [.lit (.bool true)], args := [d1, d2] }
  | _ => none }
def setsBeginRow : OpenClaim := { program := "ytnellmjnlnnckaa", sum := "f4914b47dca5cdd83075422b17143e68b347607cb75cbc768f8feab29adb1974", func := "undergrowth/undergrowthlaw11.SetsBegin", spec := "setsBegin", unfollowed := true, recurses := true, apart := false }
def SetsBeginSaid : Prop := setsBeginRow.holds Try.pinned (OpenSpec.ofChange setsBeginSpec)

/-- ITS FALSE NEIGHBOUR: 'it returns false'. Refute it at one input. -/
def setsBeginWrong : ChangeSpec := { name := "setsBegin", fn := fun _ => fun
  | [d1, d2] => { results := [.lit (.bool false)], args := [d1, d2] }
  | _ => none }
def SetsBeginWrongFalsely : Prop := setsBeginRow.holds Try.pinned (OpenSpec.ofChange setsBeginWrong)

/-- 'undergrowthlaw11.SetsBehind': WHATEVER THE INPUT: true; the input reads as it did. -/
def setsBehindSpec : ChangeSpec := { name := "setsBehind", fn := fun _ => fun
  | [d1, d2, d3] => { results := [.lit (.bool true)], args := [d1, d2, d3] }
  | _ => none }
def setsBehindRow : OpenClaim := { program := "ytnellmjnlnnckaa", sum := "f4914b47dca5cdd83075422b17143e68b347607cb75cbc768f8feab29adb1974", func := "undergrowth/undergrowthlaw11.SetsBehind", spec := "setsBehind", unfollowed := true, recurses := true, apart := false }
def SetsBehindSaid : Prop := setsBehindRow.holds Try.pinned (OpenSpec.ofChange setsBehindSpec)

/-- ITS FALSE NEIGHBOUR: 'it returns false'. Refute it at one input. -/
def setsBehindWrong : ChangeSpec := { name := "setsBehind", fn := fun _ => fun
  | [d1, d2, d3] => { results := [.lit (.bool false)], args := [d1, d2, d3] }
  | _ => none }
def SetsBehindWrongFalsely : Prop := setsBehindRow.holds Try.pinned (OpenSpec.ofChange setsBehindWrong)

/-- 'undergrowthlaw11.SetsTell': WHATEVER THE INPUT: true; the input reads as it did. -/
def setsTellSpec : ChangeSpec := { name := "setsTell", fn := fun _ => fun
  | [d1, d2] => { results := [.lit (.bool true)], args := [d1, d2] }
  | _ => none }
def setsTellRow : OpenClaim := { program := "ytnellmjnlnnckaa", sum := "f4914b47dca5cdd83075422b17143e68b347607cb75cbc768f8feab29adb1974", func := "undergrowth/undergrowthlaw11.SetsTell", spec := "setsTell", unfollowed := true, recurses := true, apart := false }
def SetsTellSaid : Prop := setsTellRow.holds Try.pinned (OpenSpec.ofChange setsTellSpec)

/-- ITS FALSE NEIGHBOUR: 'it returns false'. Refute it at one input. -/
def setsTellWrong : ChangeSpec := { name := "setsTell", fn := fun _ => fun
  | [d1, d2] => { results := [.lit (.bool false)], args := [d1, d2] }
  | _ => none }
def SetsTellWrongFalsely : Prop := setsTellRow.holds Try.pinned (OpenSpec.ofChange setsTellWrong)

/-- 'undergrowthlaw11.SetsNothing': WHATEVER THE INPUT: true; the input reads as it did. -/
def setsNothingSpec : ChangeSpec := { name := "setsNothing", fn := fun _ => fun
  | [d1, d2] => { results := [.lit (.bool true)], args := [d1, d2] }
  | _ => none }
def setsNothingRow : OpenClaim := { program := "ytnellmjnlnnckaa", sum := "f4914b47dca5cdd83075422b17143e68b347607cb75cbc768f8feab29adb1974", func := "undergrowth/undergrowthlaw11.SetsNothing", spec := "setsNothing", unfollowed := true, recurses := true, apart := false }
def SetsNothingSaid : Prop := setsNothingRow.holds Try.pinned (OpenSpec.ofChange setsNothingSpec)

/-- ITS FALSE NEIGHBOUR: 'it returns false'. Refute it at one input. -/
def setsNothingWrong : ChangeSpec := { name := "setsNothing", fn := fun _ => fun
  | [d1, d2] => { results := [.lit (.bool false)], args := [d1, d2] }
  | _ => none }
def SetsNothingWrongFalsely : Prop := setsNothingRow.holds Try.pinned (OpenSpec.ofChange setsNothingWrong)

/-- 'undergrowthlaw2.RopeStays': WHATEVER THE INPUT: true; the input reads as it did. -/
def ropeStaysSpec : ChangeSpec := { name := "ropeStays", fn := fun _ => fun
  | [d1, d2] => { results := [.lit (.bool true)], args := [d1, d2] }
  | _ => none }
def ropeStaysRow : OpenClaim := { program := "ytnellmjnlnnckaa", sum := "f4914b47dca5cdd83075422b17143e68b347607cb75cbc768f8feab29adb1974", func := "undergrowth/undergrowthlaw2.RopeStays", spec := "ropeStays", inPlace := ["sync/atomic.AddInt64", "internal/bytealg.Count", "internal/bytealg.IndexByte", "internal/bytealg.Index"], recurses := true, named := ["internal/bytealg.MaxLen"], apart := false }
def RopeStaysSaid : Prop := ropeStaysRow.holds Try.pinned (OpenSpec.ofChange ropeStaysSpec)

/-- ITS FALSE NEIGHBOUR: 'it returns false'. Refute it at one input. -/
def ropeStaysWrong : ChangeSpec := { name := "ropeStays", fn := fun _ => fun
  | [d1, d2] => { results := [.lit (.bool false)], args := [d1, d2] }
  | _ => none }
def RopeStaysWrongFalsely : Prop := ropeStaysRow.holds Try.pinned (OpenSpec.ofChange ropeStaysWrong)

/-- 'undergrowthlaw2.RopeLong': WHATEVER THE INPUT: true; the input reads as it did. -/
def ropeLongSpec : ChangeSpec := { name := "ropeLong", fn := fun _ => fun
  | [d1, d2] => { results := [.lit (.bool true)], args := [d1, d2] }
  | _ => none }
def ropeLongRow : OpenClaim := { program := "ytnellmjnlnnckaa", sum := "f4914b47dca5cdd83075422b17143e68b347607cb75cbc768f8feab29adb1974", func := "undergrowth/undergrowthlaw2.RopeLong", spec := "ropeLong", inPlace := ["sync/atomic.AddInt64", "internal/bytealg.Count", "internal/bytealg.IndexByte", "internal/bytealg.Index"], recurses := true, named := ["internal/bytealg.MaxLen"], apart := false }
def RopeLongSaid : Prop := ropeLongRow.holds Try.pinned (OpenSpec.ofChange ropeLongSpec)

/-- ITS FALSE NEIGHBOUR: 'it returns false'. Refute it at one input. -/
def ropeLongWrong : ChangeSpec := { name := "ropeLong", fn := fun _ => fun
  | [d1, d2] => { results := [.lit (.bool false)], args := [d1, d2] }
  | _ => none }
def RopeLongWrongFalsely : Prop := ropeLongRow.holds Try.pinned (OpenSpec.ofChange ropeLongWrong)

/-- 'undergrowthlaw2.RopeParts': WHATEVER THE INPUT: true; the input reads as it did. -/
def ropePartsSpec : ChangeSpec := { name := "ropeParts", fn := fun _ => fun
  | [d1, d2] => { results := [.lit (.bool true)], args := [d1, d2] }
  | _ => none }
def ropePartsRow : OpenClaim := { program := "ytnellmjnlnnckaa", sum := "f4914b47dca5cdd83075422b17143e68b347607cb75cbc768f8feab29adb1974", func := "undergrowth/undergrowthlaw2.RopeParts", spec := "ropeParts", inPlace := ["sync/atomic.AddInt64", "internal/bytealg.Count", "internal/bytealg.IndexByte", "internal/bytealg.Index"], recurses := true, named := ["internal/bytealg.MaxLen"], apart := false }
def RopePartsSaid : Prop := ropePartsRow.holds Try.pinned (OpenSpec.ofChange ropePartsSpec)

/-- ITS FALSE NEIGHBOUR: 'it returns false'. Refute it at one input. -/
def ropePartsWrong : ChangeSpec := { name := "ropeParts", fn := fun _ => fun
  | [d1, d2] => { results := [.lit (.bool false)], args := [d1, d2] }
  | _ => none }
def RopePartsWrongFalsely : Prop := ropePartsRow.holds Try.pinned (OpenSpec.ofChange ropePartsWrong)

/-- 'undergrowthlaw2.RopePlays': WHATEVER THE INPUT: true; the input reads as it did. -/
def ropePlaysSpec : ChangeSpec := { name := "ropePlays", fn := fun _ => fun
  | [d1, d2, d3, d4] => { results := [.lit (.bool true)], args := [d1, d2, d3, d4] }
  | _ => none }
def ropePlaysRow : OpenClaim := { program := "ytnellmjnlnnckaa", sum := "f4914b47dca5cdd83075422b17143e68b347607cb75cbc768f8feab29adb1974", func := "undergrowth/undergrowthlaw2.RopePlays", spec := "ropePlays", inPlace := ["sync/atomic.AddInt64", "internal/bytealg.Count", "internal/bytealg.IndexByte", "internal/bytealg.Index"], recurses := true, named := ["internal/bytealg.MaxLen"], apart := false }
def RopePlaysSaid : Prop := ropePlaysRow.holds Try.pinned (OpenSpec.ofChange ropePlaysSpec)

/-- ITS FALSE NEIGHBOUR: 'it returns false'. Refute it at one input. -/
def ropePlaysWrong : ChangeSpec := { name := "ropePlays", fn := fun _ => fun
  | [d1, d2, d3, d4] => { results := [.lit (.bool false)], args := [d1, d2, d3, d4] }
  | _ => none }
def RopePlaysWrongFalsely : Prop := ropePlaysRow.holds Try.pinned (OpenSpec.ofChange ropePlaysWrong)

/- THE SECOND FORM. 'bulk': how many values and letters a reading holds, each counted each time it is reached (what is shared counts as often as it is met; a slice's spare places count too). A statement '..UptoSaid' is the law's where the arguments, and the package variables that the reading takes, are together of bulk at most 1048576: NARROWER than '..Said'. Prove '..Said' where nothing that the law and all that it calls make is longer than what came in: it says more and counts as full. Else prove '..UptoSaid'. A law counts once. -/
mutual
def uptoBulk {H : Type} : DataW H → Nat
  | .lit (.string bytes) => bytes.length + 1
  | .lit _ => 1
  | .nil => 1
  | .ptr d => uptoBulk d + 1
  | .slice elems spare => uptoBulkAll elems + uptoBulkAll spare + 1
  | .agg parts => uptoBulkAll parts + 1
  | .iface _ d => uptoBulk d + 1
  | .map entries => uptoBulkEntries entries + 1
  | .held _ => 1
def uptoBulkAll {H : Type} : List (DataW H) → Nat
  | [] => 0
  | d :: r => uptoBulk d + uptoBulkAll r
def uptoBulkEntries {H : Type} : List (Lit × DataW H) → Nat
  | [] => 0
  | x :: r => uptoBulkEntry x + uptoBulkEntries r
def uptoBulkEntry {H : Type} : Lit × DataW H → Nat
  | (.string bytes, d) => bytes.length + uptoBulk d + 1
  | (_, d) => uptoBulk d + 1
 end
def uptoSmall : (H : Type) → List (DataW H) → Bool := fun _ ds => decide (uptoBulkAll ds ≤ 1048576)
def OpenSpec.upto (s : _root_.Go.ChangeSpec) : _root_.Go.OpenSpec := { _root_.Go.OpenSpec.ofChange s with cond := some uptoSmall }

/-- 'undergrowthlaw11.SetsBegin', WHERE WHAT IT READS IS OF BULK AT MOST 1048576: true; the input reads as it did. -/
def setsBeginUptoRow : OpenClaim := { program := "ytnellmjnlnnckaa", sum := "f4914b47dca5cdd83075422b17143e68b347607cb75cbc768f8feab29adb1974", func := "undergrowth/undergrowthlaw11.SetsBegin", spec := "setsBegin", unfollowed := true, recurses := true, apart := false, narrowed := true }
def SetsBeginUptoSaid : Prop := setsBeginUptoRow.holds Try.pinned (OpenSpec.upto setsBeginSpec)

/-- 'undergrowthlaw11.SetsBehind', WHERE WHAT IT READS IS OF BULK AT MOST 1048576: true; the input reads as it did. -/
def setsBehindUptoRow : OpenClaim := { program := "ytnellmjnlnnckaa", sum := "f4914b47dca5cdd83075422b17143e68b347607cb75cbc768f8feab29adb1974", func := "undergrowth/undergrowthlaw11.SetsBehind", spec := "setsBehind", unfollowed := true, recurses := true, apart := false, narrowed := true }
def SetsBehindUptoSaid : Prop := setsBehindUptoRow.holds Try.pinned (OpenSpec.upto setsBehindSpec)

/-- 'undergrowthlaw11.SetsTell', WHERE WHAT IT READS IS OF BULK AT MOST 1048576: true; the input reads as it did. -/
def setsTellUptoRow : OpenClaim := { program := "ytnellmjnlnnckaa", sum := "f4914b47dca5cdd83075422b17143e68b347607cb75cbc768f8feab29adb1974", func := "undergrowth/undergrowthlaw11.SetsTell", spec := "setsTell", unfollowed := true, recurses := true, apart := false, narrowed := true }
def SetsTellUptoSaid : Prop := setsTellUptoRow.holds Try.pinned (OpenSpec.upto setsTellSpec)

/-- 'undergrowthlaw11.SetsNothing', WHERE WHAT IT READS IS OF BULK AT MOST 1048576: true; the input reads as it did. -/
def setsNothingUptoRow : OpenClaim := { program := "ytnellmjnlnnckaa", sum := "f4914b47dca5cdd83075422b17143e68b347607cb75cbc768f8feab29adb1974", func := "undergrowth/undergrowthlaw11.SetsNothing", spec := "setsNothing", unfollowed := true, recurses := true, apart := false, narrowed := true }
def SetsNothingUptoSaid : Prop := setsNothingUptoRow.holds Try.pinned (OpenSpec.upto setsNothingSpec)

/-- 'undergrowthlaw2.RopeStays', WHERE WHAT IT READS IS OF BULK AT MOST 1048576: true; the input reads as it did. -/
def ropeStaysUptoRow : OpenClaim := { program := "ytnellmjnlnnckaa", sum := "f4914b47dca5cdd83075422b17143e68b347607cb75cbc768f8feab29adb1974", func := "undergrowth/undergrowthlaw2.RopeStays", spec := "ropeStays", inPlace := ["sync/atomic.AddInt64", "internal/bytealg.Count", "internal/bytealg.IndexByte", "internal/bytealg.Index"], recurses := true, named := ["internal/bytealg.MaxLen"], apart := false, narrowed := true }
def RopeStaysUptoSaid : Prop := ropeStaysUptoRow.holds Try.pinned (OpenSpec.upto ropeStaysSpec)

/-- 'undergrowthlaw2.RopeLong', WHERE WHAT IT READS IS OF BULK AT MOST 1048576: true; the input reads as it did. -/
def ropeLongUptoRow : OpenClaim := { program := "ytnellmjnlnnckaa", sum := "f4914b47dca5cdd83075422b17143e68b347607cb75cbc768f8feab29adb1974", func := "undergrowth/undergrowthlaw2.RopeLong", spec := "ropeLong", inPlace := ["sync/atomic.AddInt64", "internal/bytealg.Count", "internal/bytealg.IndexByte", "internal/bytealg.Index"], recurses := true, named := ["internal/bytealg.MaxLen"], apart := false, narrowed := true }
def RopeLongUptoSaid : Prop := ropeLongUptoRow.holds Try.pinned (OpenSpec.upto ropeLongSpec)

/-- 'undergrowthlaw2.RopeParts', WHERE WHAT IT READS IS OF BULK AT MOST 1048576: true; the input reads as it did. -/
def ropePartsUptoRow : OpenClaim := { program := "ytnellmjnlnnckaa", sum := "f4914b47dca5cdd83075422b17143e68b347607cb75cbc768f8feab29adb1974", func := "undergrowth/undergrowthlaw2.RopeParts", spec := "ropeParts", inPlace := ["sync/atomic.AddInt64", "internal/bytealg.Count", "internal/bytealg.IndexByte", "internal/bytealg.Index"], recurses := true, named := ["internal/bytealg.MaxLen"], apart := false, narrowed := true }
def RopePartsUptoSaid : Prop := ropePartsUptoRow.holds Try.pinned (OpenSpec.upto ropePartsSpec)

/-- 'undergrowthlaw2.RopePlays', WHERE WHAT IT READS IS OF BULK AT MOST 1048576: true; the input reads as it did. -/
def ropePlaysUptoRow : OpenClaim := { program := "ytnellmjnlnnckaa", sum := "f4914b47dca5cdd83075422b17143e68b347607cb75cbc768f8feab29adb1974", func := "undergrowth/undergrowthlaw2.RopePlays", spec := "ropePlays", inPlace := ["sync/atomic.AddInt64", "internal/bytealg.Count", "internal/bytealg.IndexByte", "internal/bytealg.Index"], recurses := true, named := ["internal/bytealg.MaxLen"], apart := false, narrowed := true }
def RopePlaysUptoSaid : Prop := ropePlaysUptoRow.holds Try.pinned (OpenSpec.upto ropePlaysSpec)

end Rows
end Go.Proofs.Ytnellmjnlnnckaa
