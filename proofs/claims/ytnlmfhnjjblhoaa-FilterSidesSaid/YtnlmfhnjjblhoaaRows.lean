/-
  No cell of these rows narrows 'for every input' (looked for: loops, veiled, ifaces, maps, wideKeys, modest, calm, conditions, laid).
  DERIVED. THE GIVEN ROWS OF THIS SEAT. 10 by the template 'for every input the law returns true; each argument reads behind the call as it read before'; 0 by the template 'total and deterministic' (their statements: YtnlmfhnjjblhoaaTotals.lean).
  GIVEN WITH THE SEED: the statements are not yours to turn. If you find one false, say at which input.
  Laid BY PROGRAM, IN A SANDBOX (cutbox-rows.mjs): the forced cells as the released guide's own fill.sh prints them over the translation bc5a323bb6c891a1… (all of the seat's roots in one cut). By AI agents, Wed Nov 11 2026. No macro, syntax, notation, axiom, sorry.
-/
import Derived.Test.YtnlmfhnjjblhoaaChecked
import GoSem.Claim
import GoSem.ClaimJoined
import GoSem.ClaimMapViews
import Derived.JoinedTies
import Derived.KernelRfl
namespace Go.Proofs.Ytnlmfhnjjblhoaa
/- THE CELL 'sum', in the pinned program and in every row, IS THE sha256 OF THE DUMP (.gsa) THAT YtnlmfhnjjblhoaaProg.lean LOADS. Nothing in Lean hashes anything: it is a label: what it is worth is what the hold of that sum in a sandbox is worth. -/
noncomputable def Try.pinned : Pinned := { name := "ytnlmfhnjjblhoaa", sum := "bc5a323bb6c891a1c05e5cc6ab59d17b9326413e0cd83434beff46d1eadc6262", checked := Try.checked }
namespace Rows
def none {H : Type} : Left H := { results := [], args := [] }

/-- 'undergrowthlaw20.CountDoubles': WHATEVER THE INPUT: true; the input reads as it did. -/
def countDoublesSpec : ChangeSpec := { name := "countDoubles", fn := fun _ => fun
  | [d1, d2, d3] => { results := [.lit (.bool true)], args := [d1, d2, d3] }
  | _ => none }
def countDoublesRow : OpenClaim := { program := "ytnlmfhnjjblhoaa", sum := "bc5a323bb6c891a1c05e5cc6ab59d17b9326413e0cd83434beff46d1eadc6262", func := "undergrowth/undergrowthlaw20.CountDoubles", spec := "countDoubles", recurses := true, plainKeys := false, apart := false }
def CountDoublesSaid : Prop := countDoublesRow.holds Try.pinned (OpenSpec.ofChange countDoublesSpec)

/-- ITS FALSE NEIGHBOUR: 'it returns false'. Refute it at one input. -/
def countDoublesWrong : ChangeSpec := { name := "countDoubles", fn := fun _ => fun
  | [d1, d2, d3] => { results := [.lit (.bool false)], args := [d1, d2, d3] }
  | _ => none }
def CountDoublesWrongFalsely : Prop := countDoublesRow.holds Try.pinned (OpenSpec.ofChange countDoublesWrong)

/-- 'undergrowthlaw20.CountTells': WHATEVER THE INPUT: true; the input reads as it did. -/
def countTellsSpec : ChangeSpec := { name := "countTells", fn := fun _ => fun
  | [d] => { results := [.lit (.bool true)], args := [d] }
  | _ => none }
def countTellsRow : OpenClaim := { program := "ytnlmfhnjjblhoaa", sum := "bc5a323bb6c891a1c05e5cc6ab59d17b9326413e0cd83434beff46d1eadc6262", func := "undergrowth/undergrowthlaw20.CountTells", spec := "countTells", recurses := true, plainKeys := false, apart := false }
def CountTellsSaid : Prop := countTellsRow.holds Try.pinned (OpenSpec.ofChange countTellsSpec)

/-- ITS FALSE NEIGHBOUR: 'it returns false'. Refute it at one input. -/
def countTellsWrong : ChangeSpec := { name := "countTells", fn := fun _ => fun
  | [d] => { results := [.lit (.bool false)], args := [d] }
  | _ => none }
def CountTellsWrongFalsely : Prop := countTellsRow.holds Try.pinned (OpenSpec.ofChange countTellsWrong)

/-- 'undergrowthlaw20.CountRings': WHATEVER THE INPUT: true; the input reads as it did. -/
def countRingsSpec : ChangeSpec := { name := "countRings", fn := fun _ => fun
  | [d1, d2, d3] => { results := [.lit (.bool true)], args := [d1, d2, d3] }
  | _ => none }
def countRingsRow : OpenClaim := { program := "ytnlmfhnjjblhoaa", sum := "bc5a323bb6c891a1c05e5cc6ab59d17b9326413e0cd83434beff46d1eadc6262", func := "undergrowth/undergrowthlaw20.CountRings", spec := "countRings", recurses := true, plainKeys := false, apart := false }
def CountRingsSaid : Prop := countRingsRow.holds Try.pinned (OpenSpec.ofChange countRingsSpec)

/-- ITS FALSE NEIGHBOUR: 'it returns false'. Refute it at one input. -/
def countRingsWrong : ChangeSpec := { name := "countRings", fn := fun _ => fun
  | [d1, d2, d3] => { results := [.lit (.bool false)], args := [d1, d2, d3] }
  | _ => none }
def CountRingsWrongFalsely : Prop := countRingsRow.holds Try.pinned (OpenSpec.ofChange countRingsWrong)

/-- 'undergrowthlaw23.FilterSides': WHATEVER THE INPUT: true; the input reads as it did. -/
def filterSidesSpec : ChangeSpec := { name := "filterSides", fn := fun _ => fun
  | [d1, d2, d3] => { results := [.lit (.bool true)], args := [d1, d2, d3] }
  | _ => none }
def filterSidesRow : OpenClaim := { program := "ytnlmfhnjjblhoaa", sum := "bc5a323bb6c891a1c05e5cc6ab59d17b9326413e0cd83434beff46d1eadc6262", func := "undergrowth/undergrowthlaw23.FilterSides", spec := "filterSides", recurses := true, plainKeys := false, apart := false }
def FilterSidesSaid : Prop := filterSidesRow.holds Try.pinned (OpenSpec.ofChange filterSidesSpec)

/-- ITS FALSE NEIGHBOUR: 'it returns false'. Refute it at one input. -/
def filterSidesWrong : ChangeSpec := { name := "filterSides", fn := fun _ => fun
  | [d1, d2, d3] => { results := [.lit (.bool false)], args := [d1, d2, d3] }
  | _ => none }
def FilterSidesWrongFalsely : Prop := filterSidesRow.holds Try.pinned (OpenSpec.ofChange filterSidesWrong)

/-- 'undergrowthlaw23.FilterAll': WHATEVER THE INPUT: true; the input reads as it did. -/
def filterAllSpec : ChangeSpec := { name := "filterAll", fn := fun _ => fun
  | [d1, d2] => { results := [.lit (.bool true)], args := [d1, d2] }
  | _ => none }
def filterAllRow : OpenClaim := { program := "ytnlmfhnjjblhoaa", sum := "bc5a323bb6c891a1c05e5cc6ab59d17b9326413e0cd83434beff46d1eadc6262", func := "undergrowth/undergrowthlaw23.FilterAll", spec := "filterAll", recurses := true, plainKeys := false, apart := false }
def FilterAllSaid : Prop := filterAllRow.holds Try.pinned (OpenSpec.ofChange filterAllSpec)

/-- ITS FALSE NEIGHBOUR: 'it returns false'. Refute it at one input. -/
def filterAllWrong : ChangeSpec := { name := "filterAll", fn := fun _ => fun
  | [d1, d2] => { results := [.lit (.bool false)], args := [d1, d2] }
  | _ => none }
def FilterAllWrongFalsely : Prop := filterAllRow.holds Try.pinned (OpenSpec.ofChange filterAllWrong)

/-- 'undergrowthlaw23.FilterNone': WHATEVER THE INPUT: true; the input reads as it did. -/
def filterNoneSpec : ChangeSpec := { name := "filterNone", fn := fun _ => fun
  | [d1, d2] => { results := [.lit (.bool true)], args := [d1, d2] }
  | _ => none }
def filterNoneRow : OpenClaim := { program := "ytnlmfhnjjblhoaa", sum := "bc5a323bb6c891a1c05e5cc6ab59d17b9326413e0cd83434beff46d1eadc6262", func := "undergrowth/undergrowthlaw23.FilterNone", spec := "filterNone", recurses := true, plainKeys := false, apart := false }
def FilterNoneSaid : Prop := filterNoneRow.holds Try.pinned (OpenSpec.ofChange filterNoneSpec)

/-- ITS FALSE NEIGHBOUR: 'it returns false'. Refute it at one input. -/
def filterNoneWrong : ChangeSpec := { name := "filterNone", fn := fun _ => fun
  | [d1, d2] => { results := [.lit (.bool false)], args := [d1, d2] }
  | _ => none }
def FilterNoneWrongFalsely : Prop := filterNoneRow.holds Try.pinned (OpenSpec.ofChange filterNoneWrong)

/-- 'undergrowthlaw21.UnfoldDerives': WHATEVER THE INPUT: true; the input reads as it did. -/
def unfoldDerivesSpec : ChangeSpec := { name := "unfoldDerives", fn := fun _ => fun
  | [d1, d2] => { results := [.lit (.bool true)], args := [d1, d2] }
  | _ => none }
def unfoldDerivesRow : OpenClaim := { program := "ytnlmfhnjjblhoaa", sum := "bc5a323bb6c891a1c05e5cc6ab59d17b9326413e0cd83434beff46d1eadc6262", func := "undergrowth/undergrowthlaw21.UnfoldDerives", spec := "unfoldDerives", recurses := true, plainKeys := false, apart := false }
def UnfoldDerivesSaid : Prop := unfoldDerivesRow.holds Try.pinned (OpenSpec.ofChange unfoldDerivesSpec)

/-- ITS FALSE NEIGHBOUR: 'it returns false'. Refute it at one input. -/
def unfoldDerivesWrong : ChangeSpec := { name := "unfoldDerives", fn := fun _ => fun
  | [d1, d2] => { results := [.lit (.bool false)], args := [d1, d2] }
  | _ => none }
def UnfoldDerivesWrongFalsely : Prop := unfoldDerivesRow.holds Try.pinned (OpenSpec.ofChange unfoldDerivesWrong)

/-- 'undergrowthlaw21.UnfoldAll': WHATEVER THE INPUT: true; the input reads as it did. -/
def unfoldAllSpec : ChangeSpec := { name := "unfoldAll", fn := fun _ => fun
  | [d1, d2, d3] => { results := [.lit (.bool true)], args := [d1, d2, d3] }
  | _ => none }
def unfoldAllRow : OpenClaim := { program := "ytnlmfhnjjblhoaa", sum := "bc5a323bb6c891a1c05e5cc6ab59d17b9326413e0cd83434beff46d1eadc6262", func := "undergrowth/undergrowthlaw21.UnfoldAll", spec := "unfoldAll", recurses := true, plainKeys := false, apart := false }
def UnfoldAllSaid : Prop := unfoldAllRow.holds Try.pinned (OpenSpec.ofChange unfoldAllSpec)

/-- ITS FALSE NEIGHBOUR: 'it returns false'. Refute it at one input. -/
def unfoldAllWrong : ChangeSpec := { name := "unfoldAll", fn := fun _ => fun
  | [d1, d2, d3] => { results := [.lit (.bool false)], args := [d1, d2, d3] }
  | _ => none }
def UnfoldAllWrongFalsely : Prop := unfoldAllRow.holds Try.pinned (OpenSpec.ofChange unfoldAllWrong)

/-- 'undergrowthlaw21.UnfoldCatalan': WHATEVER THE INPUT: true; the input reads as it did. -/
def unfoldCatalanSpec : ChangeSpec := { name := "unfoldCatalan", fn := fun _ => fun
  | [d] => { results := [.lit (.bool true)], args := [d] }
  | _ => none }
def unfoldCatalanRow : OpenClaim := { program := "ytnlmfhnjjblhoaa", sum := "bc5a323bb6c891a1c05e5cc6ab59d17b9326413e0cd83434beff46d1eadc6262", func := "undergrowth/undergrowthlaw21.UnfoldCatalan", spec := "unfoldCatalan", recurses := true, plainKeys := false, apart := false }
def UnfoldCatalanSaid : Prop := unfoldCatalanRow.holds Try.pinned (OpenSpec.ofChange unfoldCatalanSpec)

/-- ITS FALSE NEIGHBOUR: 'it returns false'. Refute it at one input. -/
def unfoldCatalanWrong : ChangeSpec := { name := "unfoldCatalan", fn := fun _ => fun
  | [d] => { results := [.lit (.bool false)], args := [d] }
  | _ => none }
def UnfoldCatalanWrongFalsely : Prop := unfoldCatalanRow.holds Try.pinned (OpenSpec.ofChange unfoldCatalanWrong)

/-- 'undergrowthlaw21.UnfoldNumbers': WHATEVER THE INPUT: true; the input reads as it did. -/
def unfoldNumbersSpec : ChangeSpec := { name := "unfoldNumbers", fn := fun _ => fun
  | [d1, d2] => { results := [.lit (.bool true)], args := [d1, d2] }
  | _ => none }
def unfoldNumbersRow : OpenClaim := { program := "ytnlmfhnjjblhoaa", sum := "bc5a323bb6c891a1c05e5cc6ab59d17b9326413e0cd83434beff46d1eadc6262", func := "undergrowth/undergrowthlaw21.UnfoldNumbers", spec := "unfoldNumbers", recurses := true, plainKeys := false, apart := false }
def UnfoldNumbersSaid : Prop := unfoldNumbersRow.holds Try.pinned (OpenSpec.ofChange unfoldNumbersSpec)

/-- ITS FALSE NEIGHBOUR: 'it returns false'. Refute it at one input. -/
def unfoldNumbersWrong : ChangeSpec := { name := "unfoldNumbers", fn := fun _ => fun
  | [d1, d2] => { results := [.lit (.bool false)], args := [d1, d2] }
  | _ => none }
def UnfoldNumbersWrongFalsely : Prop := unfoldNumbersRow.holds Try.pinned (OpenSpec.ofChange unfoldNumbersWrong)

/- THE SECOND FORM. 'bulk': how many values and letters a reading holds, each counted each time it is reached (what is shared counts as often as it is met; a slice's spare places count too). A statement '..UptoSaid' is the law's where the arguments, and the package variables that the reading takes, are together of bulk at most 1048576: NARROWER than '..Said'. Prove '..Said' where nothing that the law and all that it calls make is longer than what came in: it says more and counts as full. Else prove '..UptoSaid'. A law counts once. -/
mutual
def uptoBulk {H : Type} : DataW H → Nat
  | .lit (.string bytes) => bytes.length + 1
  | .lit _ => 1
  | .nil => 1
  | .ptr d => uptoBulk d + 1
  | .slice elems spare => uptoBulkAll elems + uptoBulkAll spare + 1
  | .agg parts => uptoBulkAll parts + 1
  | .iface _ d => uptoBulk d + 1
  | .map entries => uptoBulkEntries entries + 1
  | .held _ => 1
def uptoBulkAll {H : Type} : List (DataW H) → Nat
  | [] => 0
  | d :: r => uptoBulk d + uptoBulkAll r
def uptoBulkEntries {H : Type} : List (Lit × DataW H) → Nat
  | [] => 0
  | x :: r => uptoBulkEntry x + uptoBulkEntries r
def uptoBulkEntry {H : Type} : Lit × DataW H → Nat
  | (.string bytes, d) => bytes.length + uptoBulk d + 1
  | (_, d) => uptoBulk d + 1
 end
def uptoSmall : (H : Type) → List (DataW H) → Bool := fun _ ds => decide (uptoBulkAll ds ≤ 1048576)
def OpenSpec.upto (s : _root_.Go.ChangeSpec) : _root_.Go.OpenSpec := { _root_.Go.OpenSpec.ofChange s with cond := some uptoSmall }

/-- 'undergrowthlaw20.CountDoubles', WHERE WHAT IT READS IS OF BULK AT MOST 1048576: true; the input reads as it did. -/
def countDoublesUptoRow : OpenClaim := { program := "ytnlmfhnjjblhoaa", sum := "bc5a323bb6c891a1c05e5cc6ab59d17b9326413e0cd83434beff46d1eadc6262", func := "undergrowth/undergrowthlaw20.CountDoubles", spec := "countDoubles", recurses := true, plainKeys := false, apart := false, narrowed := true }
def CountDoublesUptoSaid : Prop := countDoublesUptoRow.holds Try.pinned (OpenSpec.upto countDoublesSpec)

/-- 'undergrowthlaw20.CountTells', WHERE WHAT IT READS IS OF BULK AT MOST 1048576: true; the input reads as it did. -/
def countTellsUptoRow : OpenClaim := { program := "ytnlmfhnjjblhoaa", sum := "bc5a323bb6c891a1c05e5cc6ab59d17b9326413e0cd83434beff46d1eadc6262", func := "undergrowth/undergrowthlaw20.CountTells", spec := "countTells", recurses := true, plainKeys := false, apart := false, narrowed := true }
def CountTellsUptoSaid : Prop := countTellsUptoRow.holds Try.pinned (OpenSpec.upto countTellsSpec)

/-- 'undergrowthlaw20.CountRings', WHERE WHAT IT READS IS OF BULK AT MOST 1048576: true; the input reads as it did. -/
def countRingsUptoRow : OpenClaim := { program := "ytnlmfhnjjblhoaa", sum := "bc5a323bb6c891a1c05e5cc6ab59d17b9326413e0cd83434beff46d1eadc6262", func := "undergrowth/undergrowthlaw20.CountRings", spec := "countRings", recurses := true, plainKeys := false, apart := false, narrowed := true }
def CountRingsUptoSaid : Prop := countRingsUptoRow.holds Try.pinned (OpenSpec.upto countRingsSpec)

/-- 'undergrowthlaw23.FilterSides', WHERE WHAT IT READS IS OF BULK AT MOST 1048576: true; the input reads as it did. -/
def filterSidesUptoRow : OpenClaim := { program := "ytnlmfhnjjblhoaa", sum := "bc5a323bb6c891a1c05e5cc6ab59d17b9326413e0cd83434beff46d1eadc6262", func := "undergrowth/undergrowthlaw23.FilterSides", spec := "filterSides", recurses := true, plainKeys := false, apart := false, narrowed := true }
def FilterSidesUptoSaid : Prop := filterSidesUptoRow.holds Try.pinned (OpenSpec.upto filterSidesSpec)

/-- 'undergrowthlaw23.FilterAll', WHERE WHAT IT READS IS OF BULK AT MOST 1048576: true; the input reads as it did. -/
def filterAllUptoRow : OpenClaim := { program := "ytnlmfhnjjblhoaa", sum := "bc5a323bb6c891a1c05e5cc6ab59d17b9326413e0cd83434beff46d1eadc6262", func := "undergrowth/undergrowthlaw23.FilterAll", spec := "filterAll", recurses := true, plainKeys := false, apart := false, narrowed := true }
def FilterAllUptoSaid : Prop := filterAllUptoRow.holds Try.pinned (OpenSpec.upto filterAllSpec)

/-- 'undergrowthlaw23.FilterNone', WHERE WHAT IT READS IS OF BULK AT MOST 1048576: true; the input reads as it did. -/
def filterNoneUptoRow : OpenClaim := { program := "ytnlmfhnjjblhoaa", sum := "bc5a323bb6c891a1c05e5cc6ab59d17b9326413e0cd83434beff46d1eadc6262", func := "undergrowth/undergrowthlaw23.FilterNone", spec := "filterNone", recurses := true, plainKeys := false, apart := false, narrowed := true }
def FilterNoneUptoSaid : Prop := filterNoneUptoRow.holds Try.pinned (OpenSpec.upto filterNoneSpec)

/-- 'undergrowthlaw21.UnfoldDerives', WHERE WHAT IT READS IS OF BULK AT MOST 1048576: true; the input reads as it did. -/
def unfoldDerivesUptoRow : OpenClaim := { program := "ytnlmfhnjjblhoaa", sum := "bc5a323bb6c891a1c05e5cc6ab59d17b9326413e0cd83434beff46d1eadc6262", func := "undergrowth/undergrowthlaw21.UnfoldDerives", spec := "unfoldDerives", recurses := true, plainKeys := false, apart := false, narrowed := true }
def UnfoldDerivesUptoSaid : Prop := unfoldDerivesUptoRow.holds Try.pinned (OpenSpec.upto unfoldDerivesSpec)

/-- 'undergrowthlaw21.UnfoldAll', WHERE WHAT IT READS IS OF BULK AT MOST 1048576: true; the input reads as it did. -/
def unfoldAllUptoRow : OpenClaim := { program := "ytnlmfhnjjblhoaa", sum := "bc5a323bb6c891a1c05e5cc6ab59d17b9326413e0cd83434beff46d1eadc6262", func := "undergrowth/undergrowthlaw21.UnfoldAll", spec := "unfoldAll", recurses := true, plainKeys := false, apart := false, narrowed := true }
def UnfoldAllUptoSaid : Prop := unfoldAllUptoRow.holds Try.pinned (OpenSpec.upto unfoldAllSpec)

/-- 'undergrowthlaw21.UnfoldCatalan', WHERE WHAT IT READS IS OF BULK AT MOST 1048576: true; the input reads as it did. -/
def unfoldCatalanUptoRow : OpenClaim := { program := "ytnlmfhnjjblhoaa", sum := "bc5a323bb6c891a1c05e5cc6ab59d17b9326413e0cd83434beff46d1eadc6262", func := "undergrowth/undergrowthlaw21.UnfoldCatalan", spec := "unfoldCatalan", recurses := true, plainKeys := false, apart := false, narrowed := true }
def UnfoldCatalanUptoSaid : Prop := unfoldCatalanUptoRow.holds Try.pinned (OpenSpec.upto unfoldCatalanSpec)

/-- 'undergrowthlaw21.UnfoldNumbers', WHERE WHAT IT READS IS OF BULK AT MOST 1048576: true; the input reads as it did. -/
def unfoldNumbersUptoRow : OpenClaim := { program := "ytnlmfhnjjblhoaa", sum := "bc5a323bb6c891a1c05e5cc6ab59d17b9326413e0cd83434beff46d1eadc6262", func := "undergrowth/undergrowthlaw21.UnfoldNumbers", spec := "unfoldNumbers", recurses := true, plainKeys := false, apart := false, narrowed := true }
def UnfoldNumbersUptoSaid : Prop := unfoldNumbersUptoRow.holds Try.pinned (OpenSpec.upto unfoldNumbersSpec)

end Rows
end Go.Proofs.Ytnlmfhnjjblhoaa
