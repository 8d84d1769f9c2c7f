/-
  No cell of these rows narrows 'for every input' (looked for: loops, veiled, ifaces, maps, wideKeys, modest, calm, conditions, laid).
  DERIVED. THE GIVEN ROWS OF THIS SEAT. 6 by the template 'for every input the law returns true; each argument reads behind the call as it read before'; 0 by the template 'total and deterministic' (their statements: YtbnhmioijeagiaaTotals.lean).
  GIVEN WITH THE SEED: the statements are not yours to turn. If you find one false, say at which input.
  Laid BY PROGRAM, IN A SANDBOX (cutbox-rows.mjs): the forced cells as the released guide's own fill.sh prints them over the translation 7b7f04e16e5795c3… (all of the seat's roots in one cut). By AI agents, Wed Nov 11 2026. No macro, syntax, notation, axiom, sorry.
-/
import Derived.Test.YtbnhmioijeagiaaChecked
import GoSem.Claim
import GoSem.ClaimJoined
import GoSem.ClaimMapViews
import Derived.JoinedTies
import Derived.KernelRfl
namespace Go.Proofs.Ytbnhmioijeagiaa
/- THE CELL 'sum', in the pinned program and in every row, IS THE sha256 OF THE DUMP (.gsa) THAT YtbnhmioijeagiaaProg.lean LOADS. Nothing in Lean hashes anything: it is a label: what it is worth is what the hold of that sum in a sandbox is worth. -/
noncomputable def Try.pinned : Pinned := { name := "ytbnhmioijeagiaa", sum := "7b7f04e16e5795c34b49a87d7d9a917de5e52eb68ad19c2236b8e782215bdea9", checked := Try.checked }
namespace Rows
def none {H : Type} : Left H := { results := [], args := [] }

/-- 'undergrowthlaw25.SpansOrder': WHATEVER THE INPUT: true; the input reads as it did. -/
def spansOrderSpec : ChangeSpec := { name := "spansOrder", fn := fun _ => fun
  | [d1, d2, d3] => { results := [.lit (.bool true)], args := [d1, d2, d3] }
  | _ => none }
def spansOrderRow : OpenClaim := { program := "ytbnhmioijeagiaa", sum := "7b7f04e16e5795c34b49a87d7d9a917de5e52eb68ad19c2236b8e782215bdea9", func := "undergrowth/undergrowthlaw25.SpansOrder", spec := "spansOrder", recurses := true, plainKeys := false, apart := false }
def SpansOrderSaid : Prop := spansOrderRow.holds Try.pinned (OpenSpec.ofChange spansOrderSpec)

/-- ITS FALSE NEIGHBOUR: 'it returns false'. Refute it at one input. -/
def spansOrderWrong : ChangeSpec := { name := "spansOrder", fn := fun _ => fun
  | [d1, d2, d3] => { results := [.lit (.bool false)], args := [d1, d2, d3] }
  | _ => none }
def SpansOrderWrongFalsely : Prop := spansOrderRow.holds Try.pinned (OpenSpec.ofChange spansOrderWrong)

/-- 'undergrowthlaw25.SpansNested': WHATEVER THE INPUT: true; the input reads as it did. -/
def spansNestedSpec : ChangeSpec := { name := "spansNested", fn := fun _ => fun
  | [d1, d2] => { results := [.lit (.bool true)], args := [d1, d2] }
  | _ => none }
def spansNestedRow : OpenClaim := { program := "ytbnhmioijeagiaa", sum := "7b7f04e16e5795c34b49a87d7d9a917de5e52eb68ad19c2236b8e782215bdea9", func := "undergrowth/undergrowthlaw25.SpansNested", spec := "spansNested", recurses := true, plainKeys := false, apart := false }
def SpansNestedSaid : Prop := spansNestedRow.holds Try.pinned (OpenSpec.ofChange spansNestedSpec)

/-- ITS FALSE NEIGHBOUR: 'it returns false'. Refute it at one input. -/
def spansNestedWrong : ChangeSpec := { name := "spansNested", fn := fun _ => fun
  | [d1, d2] => { results := [.lit (.bool false)], args := [d1, d2] }
  | _ => none }
def SpansNestedWrongFalsely : Prop := spansNestedRow.holds Try.pinned (OpenSpec.ofChange spansNestedWrong)

/-- 'undergrowthlaw24.ChooseBest': WHATEVER THE INPUT: true; the input reads as it did. -/
def chooseBestSpec : ChangeSpec := { name := "chooseBest", fn := fun _ => fun
  | [d1, d2] => { results := [.lit (.bool true)], args := [d1, d2] }
  | _ => none }
def chooseBestRow : OpenClaim := { program := "ytbnhmioijeagiaa", sum := "7b7f04e16e5795c34b49a87d7d9a917de5e52eb68ad19c2236b8e782215bdea9", func := "undergrowth/undergrowthlaw24.ChooseBest", spec := "chooseBest", unfollowed := true, recurses := true, plainKeys := false, apart := false }
def ChooseBestSaid : Prop := chooseBestRow.holds Try.pinned (OpenSpec.ofChange chooseBestSpec)

/-- ITS FALSE NEIGHBOUR: 'it returns false'. Refute it at one input. -/
def chooseBestWrong : ChangeSpec := { name := "chooseBest", fn := fun _ => fun
  | [d1, d2] => { results := [.lit (.bool false)], args := [d1, d2] }
  | _ => none }
def ChooseBestWrongFalsely : Prop := chooseBestRow.holds Try.pinned (OpenSpec.ofChange chooseBestWrong)

/-- 'undergrowthlaw24.ChooseLeast': WHATEVER THE INPUT: true; the input reads as it did. -/
def chooseLeastSpec : ChangeSpec := { name := "chooseLeast", fn := fun _ => fun
  | [d1, d2] => { results := [.lit (.bool true)], args := [d1, d2] }
  | _ => none }
def chooseLeastRow : OpenClaim := { program := "ytbnhmioijeagiaa", sum := "7b7f04e16e5795c34b49a87d7d9a917de5e52eb68ad19c2236b8e782215bdea9", func := "undergrowth/undergrowthlaw24.ChooseLeast", spec := "chooseLeast", unfollowed := true, recurses := true, plainKeys := false, apart := false }
def ChooseLeastSaid : Prop := chooseLeastRow.holds Try.pinned (OpenSpec.ofChange chooseLeastSpec)

/-- ITS FALSE NEIGHBOUR: 'it returns false'. Refute it at one input. -/
def chooseLeastWrong : ChangeSpec := { name := "chooseLeast", fn := fun _ => fun
  | [d1, d2] => { results := [.lit (.bool false)], args := [d1, d2] }
  | _ => none }
def ChooseLeastWrongFalsely : Prop := chooseLeastRow.holds Try.pinned (OpenSpec.ofChange chooseLeastWrong)

/-- 'undergrowthlaw24.ChooseSides': WHATEVER THE INPUT: true; the input reads as it did. -/
def chooseSidesSpec : ChangeSpec := { name := "chooseSides", fn := fun _ => fun
  | [d1, d2, d3] => { results := [.lit (.bool true)], args := [d1, d2, d3] }
  | _ => none }
def chooseSidesRow : OpenClaim := { program := "ytbnhmioijeagiaa", sum := "7b7f04e16e5795c34b49a87d7d9a917de5e52eb68ad19c2236b8e782215bdea9", func := "undergrowth/undergrowthlaw24.ChooseSides", spec := "chooseSides", unfollowed := true, recurses := true, plainKeys := false, apart := false }
def ChooseSidesSaid : Prop := chooseSidesRow.holds Try.pinned (OpenSpec.ofChange chooseSidesSpec)

/-- ITS FALSE NEIGHBOUR: 'it returns false'. Refute it at one input. -/
def chooseSidesWrong : ChangeSpec := { name := "chooseSides", fn := fun _ => fun
  | [d1, d2, d3] => { results := [.lit (.bool false)], args := [d1, d2, d3] }
  | _ => none }
def ChooseSidesWrongFalsely : Prop := chooseSidesRow.holds Try.pinned (OpenSpec.ofChange chooseSidesWrong)

/-- 'undergrowthlaw24.ChooseHeavy': WHATEVER THE INPUT: true; the input reads as it did. -/
def chooseHeavySpec : ChangeSpec := { name := "chooseHeavy", fn := fun _ => fun
  | [d1, d2] => { results := [.lit (.bool true)], args := [d1, d2] }
  | _ => none }
def chooseHeavyRow : OpenClaim := { program := "ytbnhmioijeagiaa", sum := "7b7f04e16e5795c34b49a87d7d9a917de5e52eb68ad19c2236b8e782215bdea9", func := "undergrowth/undergrowthlaw24.ChooseHeavy", spec := "chooseHeavy", unfollowed := true, recurses := true, plainKeys := false, apart := false }
def ChooseHeavySaid : Prop := chooseHeavyRow.holds Try.pinned (OpenSpec.ofChange chooseHeavySpec)

/-- ITS FALSE NEIGHBOUR: 'it returns false'. Refute it at one input. -/
def chooseHeavyWrong : ChangeSpec := { name := "chooseHeavy", fn := fun _ => fun
  | [d1, d2] => { results := [.lit (.bool false)], args := [d1, d2] }
  | _ => none }
def ChooseHeavyWrongFalsely : Prop := chooseHeavyRow.holds Try.pinned (OpenSpec.ofChange chooseHeavyWrong)

/- THE SECOND FORM. 'bulk': how many values and letters a reading holds, each counted each time it is reached (what is shared counts as often as it is met; a slice's spare places count too). A statement '..UptoSaid' is the law's where the arguments, and the package variables that the reading takes, are together of bulk at most 1048576: NARROWER than '..Said'. Prove '..Said' where nothing that the law and all that it calls make is longer than what came in: it says more and counts as full. Else prove '..UptoSaid'. A law counts once. -/
mutual
def uptoBulk {H : Type} : DataW H → Nat
  | .lit (.string bytes) => bytes.length + 1
  | .lit _ => 1
  | .nil => 1
  | .ptr d => uptoBulk d + 1
  | .slice elems spare => uptoBulkAll elems + uptoBulkAll spare + 1
  | .agg parts => uptoBulkAll parts + 1
  | .iface _ d => uptoBulk d + 1
  | .map entries => uptoBulkEntries entries + 1
  | .held _ => 1
def uptoBulkAll {H : Type} : List (DataW H) → Nat
  | [] => 0
  | d :: r => uptoBulk d + uptoBulkAll r
def uptoBulkEntries {H : Type} : List (Lit × DataW H) → Nat
  | [] => 0
  | x :: r => uptoBulkEntry x + uptoBulkEntries r
def uptoBulkEntry {H : Type} : Lit × DataW H → Nat
  | (.string bytes, d) => bytes.length + uptoBulk d + 1
  | (_, d) => uptoBulk d + 1
 end
def uptoSmall : (H : Type) → List (DataW H) → Bool := fun _ ds => decide (uptoBulkAll ds ≤ 1048576)
def OpenSpec.upto (s : _root_.Go.ChangeSpec) : _root_.Go.OpenSpec := { _root_.Go.OpenSpec.ofChange s with cond := some uptoSmall }

/-- 'undergrowthlaw25.SpansOrder', WHERE WHAT IT READS IS OF BULK AT MOST 1048576: true; the input reads as it did. -/
def spansOrderUptoRow : OpenClaim := { program := "ytbnhmioijeagiaa", sum := "7b7f04e16e5795c34b49a87d7d9a917de5e52eb68ad19c2236b8e782215bdea9", func := "undergrowth/undergrowthlaw25.SpansOrder", spec := "spansOrder", recurses := true, plainKeys := false, apart := false, narrowed := true }
def SpansOrderUptoSaid : Prop := spansOrderUptoRow.holds Try.pinned (OpenSpec.upto spansOrderSpec)

/-- 'undergrowthlaw25.SpansNested', WHERE WHAT IT READS IS OF BULK AT MOST 1048576: true; the input reads as it did. -/
def spansNestedUptoRow : OpenClaim := { program := "ytbnhmioijeagiaa", sum := "7b7f04e16e5795c34b49a87d7d9a917de5e52eb68ad19c2236b8e782215bdea9", func := "undergrowth/undergrowthlaw25.SpansNested", spec := "spansNested", recurses := true, plainKeys := false, apart := false, narrowed := true }
def SpansNestedUptoSaid : Prop := spansNestedUptoRow.holds Try.pinned (OpenSpec.upto spansNestedSpec)

/-- 'undergrowthlaw24.ChooseBest', WHERE WHAT IT READS IS OF BULK AT MOST 1048576: true; the input reads as it did. -/
def chooseBestUptoRow : OpenClaim := { program := "ytbnhmioijeagiaa", sum := "7b7f04e16e5795c34b49a87d7d9a917de5e52eb68ad19c2236b8e782215bdea9", func := "undergrowth/undergrowthlaw24.ChooseBest", spec := "chooseBest", unfollowed := true, recurses := true, plainKeys := false, apart := false, narrowed := true }
def ChooseBestUptoSaid : Prop := chooseBestUptoRow.holds Try.pinned (OpenSpec.upto chooseBestSpec)

/-- 'undergrowthlaw24.ChooseLeast', WHERE WHAT IT READS IS OF BULK AT MOST 1048576: true; the input reads as it did. -/
def chooseLeastUptoRow : OpenClaim := { program := "ytbnhmioijeagiaa", sum := "7b7f04e16e5795c34b49a87d7d9a917de5e52eb68ad19c2236b8e782215bdea9", func := "undergrowth/undergrowthlaw24.ChooseLeast", spec := "chooseLeast", unfollowed := true, recurses := true, plainKeys := false, apart := false, narrowed := true }
def ChooseLeastUptoSaid : Prop := chooseLeastUptoRow.holds Try.pinned (OpenSpec.upto chooseLeastSpec)

/-- 'undergrowthlaw24.ChooseSides', WHERE WHAT IT READS IS OF BULK AT MOST 1048576: true; the input reads as it did. -/
def chooseSidesUptoRow : OpenClaim := { program := "ytbnhmioijeagiaa", sum := "7b7f04e16e5795c34b49a87d7d9a917de5e52eb68ad19c2236b8e782215bdea9", func := "undergrowth/undergrowthlaw24.ChooseSides", spec := "chooseSides", unfollowed := true, recurses := true, plainKeys := false, apart := false, narrowed := true }
def ChooseSidesUptoSaid : Prop := chooseSidesUptoRow.holds Try.pinned (OpenSpec.upto chooseSidesSpec)

/-- 'undergrowthlaw24.ChooseHeavy', WHERE WHAT IT READS IS OF BULK AT MOST 1048576: true; the input reads as it did. -/
def chooseHeavyUptoRow : OpenClaim := { program := "ytbnhmioijeagiaa", sum := "7b7f04e16e5795c34b49a87d7d9a917de5e52eb68ad19c2236b8e782215bdea9", func := "undergrowth/undergrowthlaw24.ChooseHeavy", spec := "chooseHeavy", unfollowed := true, recurses := true, plainKeys := false, apart := false, narrowed := true }
def ChooseHeavyUptoSaid : Prop := chooseHeavyUptoRow.holds Try.pinned (OpenSpec.upto chooseHeavySpec)

end Rows
end Go.Proofs.Ytbnhmioijeagiaa
