/- Texts of this proof, one behind the other (SmS, FiS1). No condition. -/
import Derived.Test.YtnlmfhnjjblhoaaFiSidP5
/- The forests that Build makes of two small grammars, as the kernel tells them. No condition. -/
set_option linter.unusedVariables false
set_option linter.unusedSimpArgs false
set_option maxRecDepth 100000
namespace Go.Proofs.Ytnlmfhnjjblhoaa.Ab

def sidF1 : Fo := ⟨[⟨0, 0, 1, [⟨0, [-1]⟩]⟩], 0⟩
theorem sidB1 : (buildF gS (ksS 0) 5000).1 = some sidF1 := isF_some (by decide +kernel)
theorem sid1NN : SidOk sidF1 [] 1 := sidOk_of (tab := [[1]]) (by decide +kernel) (by decide +kernel) (by decide +kernel)
theorem sid1NY : SidOk sidF1 [(1, 2, 1)] 1 := sidOk_of (tab := [[1]]) (by decide +kernel) (by decide +kernel) (by decide +kernel)
theorem sid1YN : SidOk sidF1 [(1, 0, 1)] 1 := sidOk_of (tab := [[1]]) (by decide +kernel) (by decide +kernel) (by decide +kernel)
theorem sid1YY : SidOk sidF1 [(1, 0, 1), (1, 2, 1)] 1 := sidOk_of (tab := [[1]]) (by decide +kernel) (by decide +kernel) (by decide +kernel)
def sidF2 : Fo := ⟨[⟨0, 0, 1, [⟨0, [-1]⟩]⟩, ⟨0, 0, 3, [⟨1, [0, -2, 2]⟩]⟩, ⟨0, 2, 3, [⟨0, [-3]⟩]⟩], 1⟩
theorem sidB2 : (buildF gS (ksS 1) 5000).1 = some sidF2 := isF_some (by decide +kernel)
theorem sid2NN : SidOk sidF2 [] 1 := sidOk_of (tab := [[1], [1], [1]]) (by decide +kernel) (by decide +kernel) (by decide +kernel)
theorem sid2NY : SidOk sidF2 [(1, 2, 1)] 1 := sidOk_of (tab := [[1], [1], [1]]) (by decide +kernel) (by decide +kernel) (by decide +kernel)
theorem sid2YN : SidOk sidF2 [(1, 0, 1)] 1 := sidOk_of (tab := [[1], [1], [1]]) (by decide +kernel) (by decide +kernel) (by decide +kernel)
theorem sid2YY : SidOk sidF2 [(1, 0, 1), (1, 2, 1)] 1 := sidOk_of (tab := [[1], [1], [1]]) (by decide +kernel) (by decide +kernel) (by decide +kernel)
def sidF3 : Fo := ⟨[⟨0, 0, 1, [⟨0, [-1]⟩]⟩, ⟨0, 0, 3, [⟨1, [0, -2, 3]⟩]⟩, ⟨0, 0, 5, [⟨1, [0, -2, 4]⟩, ⟨1, [1, -4, 5]⟩]⟩, ⟨0, 2, 3, [⟨0, [-3]⟩]⟩, ⟨0, 2, 5, [⟨1, [3, -4, 5]⟩]⟩, ⟨0, 4, 5, [⟨0, [-5]⟩]⟩], 2⟩
theorem sidB3 : (buildF gS (ksS 2) 5000).1 = some sidF3 := isF_some (by decide +kernel)
theorem sid3NN : SidOk sidF3 [] 2 := sidOk_of (tab := [[1], [1], [1, 1], [1], [1], [1]]) (by decide +kernel) (by decide +kernel) (by decide +kernel)
theorem sid3NY : SidOk sidF3 [(1, 2, 1)] 1 := sidOk_of (tab := [[1], [1], [0, 1], [1], [1], [1]]) (by decide +kernel) (by decide +kernel) (by decide +kernel)
theorem sid3YN : SidOk sidF3 [(1, 0, 1)] 1 := sidOk_of (tab := [[1], [1], [1, 0], [1], [1], [1]]) (by decide +kernel) (by decide +kernel) (by decide +kernel)
theorem sid3YY : SidOk sidF3 [(1, 0, 1), (1, 2, 1)] 0 := sidOk_of (tab := [[1], [1], [0, 0], [1], [1], [1]]) (by decide +kernel) (by decide +kernel) (by decide +kernel)
def sidF4 : Fo := ⟨[⟨0, 0, 1, [⟨0, [-1]⟩]⟩, ⟨0, 0, 3, [⟨1, [0, -2, 4]⟩]⟩, ⟨0, 0, 5, [⟨1, [0, -2, 5]⟩, ⟨1, [1, -4, 7]⟩]⟩, ⟨0, 0, 7, [⟨1, [0, -2, 6]⟩, ⟨1, [1, -4, 8]⟩, ⟨1, [2, -6, 9]⟩]⟩, ⟨0, 2, 3, [⟨0, [-3]⟩]⟩, ⟨0, 2, 5, [⟨1, [4, -4, 7]⟩]⟩, ⟨0, 2, 7, [⟨1, [4, -4, 8]⟩, ⟨1, [5, -6, 9]⟩]⟩, ⟨0, 4, 5, [⟨0, [-5]⟩]⟩, ⟨0, 4, 7, [⟨1, [7, -6, 9]⟩]⟩, ⟨0, 6, 7, [⟨0, [-7]⟩]⟩], 3⟩
theorem sidB4 : (buildF gS (ksS 3) 5000).1 = some sidF4 := isF_some (by decide +kernel)
theorem sid4NN : SidOk sidF4 [] 5 := sidOk_of (tab := [[1], [1], [1, 1], [2, 1, 2], [1], [1], [1, 1], [1], [1], [1]]) (by decide +kernel) (by decide +kernel) (by decide +kernel)
theorem sid4NY : SidOk sidF4 [(1, 2, 1)] 1 := sidOk_of (tab := [[1], [1], [0, 1], [0, 0, 1], [1], [1], [0, 1], [1], [1], [1]]) (by decide +kernel) (by decide +kernel) (by decide +kernel)
theorem sid4YN : SidOk sidF4 [(1, 0, 1)] 1 := sidOk_of (tab := [[1], [1], [1, 0], [1, 0, 0], [1], [1], [1, 0], [1], [1], [1]]) (by decide +kernel) (by decide +kernel) (by decide +kernel)
theorem sid4YY : SidOk sidF4 [(1, 0, 1), (1, 2, 1)] 0 := sidOk_of (tab := [[1], [1], [0, 0], [0, 0, 0], [1], [1], [0, 0], [1], [1], [1]]) (by decide +kernel) (by decide +kernel) (by decide +kernel)
def sidF5 : Fo := ⟨[⟨0, 0, 1, [⟨0, [-1]⟩]⟩, ⟨0, 0, 3, [⟨1, [0, -2, 5]⟩]⟩, ⟨0, 0, 5, [⟨1, [0, -2, 6]⟩, ⟨1, [1, -4, 9]⟩]⟩, ⟨0, 0, 7, [⟨1, [0, -2, 7]⟩, ⟨1, [1, -4, 10]⟩, ⟨1, [2, -6, 12]⟩]⟩, ⟨0, 0, 9, [⟨1, [0, -2, 8]⟩, ⟨1, [1, -4, 11]⟩, ⟨1, [2, -6, 13]⟩, ⟨1, [3, -8, 14]⟩]⟩, ⟨0, 2, 3, [⟨0, [-3]⟩]⟩, ⟨0, 2, 5, [⟨1, [5, -4, 9]⟩]⟩, ⟨0, 2, 7, [⟨1, [5, -4, 10]⟩, ⟨1, [6, -6, 12]⟩]⟩, ⟨0, 2, 9, [⟨1, [5, -4, 11]⟩, ⟨1, [6, -6, 13]⟩, ⟨1, [7, -8, 14]⟩]⟩, ⟨0, 4, 5, [⟨0, [-5]⟩]⟩, ⟨0, 4, 7, [⟨1, [9, -6, 12]⟩]⟩, ⟨0, 4, 9, [⟨1, [9, -6, 13]⟩, ⟨1, [10, -8, 14]⟩]⟩, ⟨0, 6, 7, [⟨0, [-7]⟩]⟩, ⟨0, 6, 9, [⟨1, [12, -8, 14]⟩]⟩, ⟨0, 8, 9, [⟨0, [-9]⟩]⟩], 4⟩
theorem sidB5 : (buildF gS (ksS 4) 5000).1 = some sidF5 := isF_some (by decide +kernel)
theorem sid5NN : SidOk sidF5 [] 14 := sidOk_of (tab := [[1], [1], [1, 1], [2, 1, 2], [5, 2, 2, 5], [1], [1], [1, 1], [2, 1, 2], [1], [1], [1, 1], [1], [1], [1]]) (by decide +kernel) (by decide +kernel) (by decide +kernel)
theorem sid5NY : SidOk sidF5 [(1, 2, 1)] 1 := sidOk_of (tab := [[1], [1], [0, 1], [0, 0, 1], [0, 0, 0, 1], [1], [1], [0, 1], [0, 0, 1], [1], [1], [0, 1], [1], [1], [1]]) (by decide +kernel) (by decide +kernel) (by decide +kernel)
theorem sid5YN : SidOk sidF5 [(1, 0, 1)] 1 := sidOk_of (tab := [[1], [1], [1, 0], [1, 0, 0], [1, 0, 0, 0], [1], [1], [1, 0], [1, 0, 0], [1], [1], [1, 0], [1], [1], [1]]) (by decide +kernel) (by decide +kernel) (by decide +kernel)
theorem sid5YY : SidOk sidF5 [(1, 0, 1), (1, 2, 1)] 0 := sidOk_of (tab := [[1], [1], [0, 0], [0, 0, 0], [0, 0, 0, 0], [1], [1], [0, 0], [0, 0, 0], [1], [1], [0, 0], [1], [1], [1]]) (by decide +kernel) (by decide +kernel) (by decide +kernel)
def sidF6 : Fo := ⟨[⟨0, 0, 1, [⟨0, [-1]⟩]⟩, ⟨0, 0, 3, [⟨1, [0, -2, 6]⟩]⟩, ⟨0, 0, 5, [⟨1, [0, -2, 7]⟩, ⟨1, [1, -4, 11]⟩]⟩, ⟨0, 0, 7, [⟨1, [0, -2, 8]⟩, ⟨1, [1, -4, 12]⟩, ⟨1, [2, -6, 15]⟩]⟩, ⟨0, 0, 9, [⟨1, [0, -2, 9]⟩, ⟨1, [1, -4, 13]⟩, ⟨1, [2, -6, 16]⟩, ⟨1, [3, -8, 18]⟩]⟩, ⟨0, 0, 11, [⟨1, [0, -2, 10]⟩, ⟨1, [1, -4, 14]⟩, ⟨1, [2, -6, 17]⟩, ⟨1, [3, -8, 19]⟩, ⟨1, [4, -10, 20]⟩]⟩, ⟨0, 2, 3, [⟨0, [-3]⟩]⟩, ⟨0, 2, 5, [⟨1, [6, -4, 11]⟩]⟩, ⟨0, 2, 7, [⟨1, [6, -4, 12]⟩, ⟨1, [7, -6, 15]⟩]⟩, ⟨0, 2, 9, [⟨1, [6, -4, 13]⟩, ⟨1, [7, -6, 16]⟩, ⟨1, [8, -8, 18]⟩]⟩, ⟨0, 2, 11, [⟨1, [6, -4, 14]⟩, ⟨1, [7, -6, 17]⟩, ⟨1, [8, -8, 19]⟩, ⟨1, [9, -10, 20]⟩]⟩, ⟨0, 4, 5, [⟨0, [-5]⟩]⟩, ⟨0, 4, 7, [⟨1, [11, -6, 15]⟩]⟩, ⟨0, 4, 9, [⟨1, [11, -6, 16]⟩, ⟨1, [12, -8, 18]⟩]⟩, ⟨0, 4, 11, [⟨1, [11, -6, 17]⟩, ⟨1, [12, -8, 19]⟩, ⟨1, [13, -10, 20]⟩]⟩, ⟨0, 6, 7, [⟨0, [-7]⟩]⟩, ⟨0, 6, 9, [⟨1, [15, -8, 18]⟩]⟩, ⟨0, 6, 11, [⟨1, [15, -8, 19]⟩, ⟨1, [16, -10, 20]⟩]⟩, ⟨0, 8, 9, [⟨0, [-9]⟩]⟩, ⟨0, 8, 11, [⟨1, [18, -10, 20]⟩]⟩, ⟨0, 10, 11, [⟨0, [-11]⟩]⟩], 5⟩
theorem sidB6 : (buildF gS (ksS 5) 5000).1 = some sidF6 := isF_some (by decide +kernel)
theorem sid6NN : SidOk sidF6 [] 42 := sidOk_of (tab := [[1], [1], [1, 1], [2, 1, 2], [5, 2, 2, 5], [14, 5, 4, 5, 14], [1], [1], [1, 1], [2, 1, 2], [5, 2, 2, 5], [1], [1], [1, 1], [2, 1, 2], [1], [1], [1, 1], [1], [1], [1]]) (by decide +kernel) (by decide +kernel) (by decide +kernel)
theorem sid6NY : SidOk sidF6 [(1, 2, 1)] 1 := sidOk_of (tab := [[1], [1], [0, 1], [0, 0, 1], [0, 0, 0, 1], [0, 0, 0, 0, 1], [1], [1], [0, 1], [0, 0, 1], [0, 0, 0, 1], [1], [1], [0, 1], [0, 0, 1], [1], [1], [0, 1], [1], [1], [1]]) (by decide +kernel) (by decide +kernel) (by decide +kernel)
theorem sid6YN : SidOk sidF6 [(1, 0, 1)] 1 := sidOk_of (tab := [[1], [1], [1, 0], [1, 0, 0], [1, 0, 0, 0], [1, 0, 0, 0, 0], [1], [1], [1, 0], [1, 0, 0], [1, 0, 0, 0], [1], [1], [1, 0], [1, 0, 0], [1], [1], [1, 0], [1], [1], [1]]) (by decide +kernel) (by decide +kernel) (by decide +kernel)
theorem sid6YY : SidOk sidF6 [(1, 0, 1), (1, 2, 1)] 0 := sidOk_of (tab := [[1], [1], [0, 0], [0, 0, 0], [0, 0, 0, 0], [0, 0, 0, 0, 0], [1], [1], [0, 0], [0, 0, 0], [0, 0, 0, 0], [1], [1], [0, 0], [0, 0, 0], [1], [1], [0, 0], [1], [1], [1]]) (by decide +kernel) (by decide +kernel) (by decide +kernel)
def sidF7 : Fo := ⟨[⟨0, 0, 1, [⟨0, [-1]⟩]⟩, ⟨0, 0, 3, [⟨1, [0, -2, 7]⟩]⟩, ⟨0, 0, 5, [⟨1, [0, -2, 8]⟩, ⟨1, [1, -4, 13]⟩]⟩, ⟨0, 0, 7, [⟨1, [0, -2, 9]⟩, ⟨1, [1, -4, 14]⟩, ⟨1, [2, -6, 18]⟩]⟩, ⟨0, 0, 9, [⟨1, [0, -2, 10]⟩, ⟨1, [1, -4, 15]⟩, ⟨1, [2, -6, 19]⟩, ⟨1, [3, -8, 22]⟩]⟩, ⟨0, 0, 11, [⟨1, [0, -2, 11]⟩, ⟨1, [1, -4, 16]⟩, ⟨1, [2, -6, 20]⟩, ⟨1, [3, -8, 23]⟩, ⟨1, [4, -10, 25]⟩]⟩, ⟨0, 0, 13, [⟨1, [0, -2, 12]⟩, ⟨1, [1, -4, 17]⟩, ⟨1, [2, -6, 21]⟩, ⟨1, [3, -8, 24]⟩, ⟨1, [4, -10, 26]⟩, ⟨1, [5, -12, 27]⟩]⟩, ⟨0, 2, 3, [⟨0, [-3]⟩]⟩, ⟨0, 2, 5, [⟨1, [7, -4, 13]⟩]⟩, ⟨0, 2, 7, [⟨1, [7, -4, 14]⟩, ⟨1, [8, -6, 18]⟩]⟩, ⟨0, 2, 9, [⟨1, [7, -4, 15]⟩, ⟨1, [8, -6, 19]⟩, ⟨1, [9, -8, 22]⟩]⟩, ⟨0, 2, 11, [⟨1, [7, -4, 16]⟩, ⟨1, [8, -6, 20]⟩, ⟨1, [9, -8, 23]⟩, ⟨1, [10, -10, 25]⟩]⟩, ⟨0, 2, 13, [⟨1, [7, -4, 17]⟩, ⟨1, [8, -6, 21]⟩, ⟨1, [9, -8, 24]⟩, ⟨1, [10, -10, 26]⟩, ⟨1, [11, -12, 27]⟩]⟩, ⟨0, 4, 5, [⟨0, [-5]⟩]⟩, ⟨0, 4, 7, [⟨1, [13, -6, 18]⟩]⟩, ⟨0, 4, 9, [⟨1, [13, -6, 19]⟩, ⟨1, [14, -8, 22]⟩]⟩, ⟨0, 4, 11, [⟨1, [13, -6, 20]⟩, ⟨1, [14, -8, 23]⟩, ⟨1, [15, -10, 25]⟩]⟩, ⟨0, 4, 13, [⟨1, [13, -6, 21]⟩, ⟨1, [14, -8, 24]⟩, ⟨1, [15, -10, 26]⟩, ⟨1, [16, -12, 27]⟩]⟩, ⟨0, 6, 7, [⟨0, [-7]⟩]⟩, ⟨0, 6, 9, [⟨1, [18, -8, 22]⟩]⟩, ⟨0, 6, 11, [⟨1, [18, -8, 23]⟩, ⟨1, [19, -10, 25]⟩]⟩, ⟨0, 6, 13, [⟨1, [18, -8, 24]⟩, ⟨1, [19, -10, 26]⟩, ⟨1, [20, -12, 27]⟩]⟩, ⟨0, 8, 9, [⟨0, [-9]⟩]⟩, ⟨0, 8, 11, [⟨1, [22, -10, 25]⟩]⟩, ⟨0, 8, 13, [⟨1, [22, -10, 26]⟩, ⟨1, [23, -12, 27]⟩]⟩, ⟨0, 10, 11, [⟨0, [-11]⟩]⟩, ⟨0, 10, 13, [⟨1, [25, -12, 27]⟩]⟩, ⟨0, 12, 13, [⟨0, [-13]⟩]⟩], 6⟩
theorem sidB7 : (buildF gS (ksS 6) 5000).1 = some sidF7 := isF_some (by decide +kernel)
theorem sid7NN : SidOk sidF7 [] 132 := sidOk_of (tab := [[1], [1], [1, 1], [2, 1, 2], [5, 2, 2, 5], [14, 5, 4, 5, 14], [42, 14, 10, 10, 14, 42], [1], [1], [1, 1], [2, 1, 2], [5, 2, 2, 5], [14, 5, 4, 5, 14], [1], [1], [1, 1], [2, 1, 2], [5, 2, 2, 5], [1], [1], [1, 1], [2, 1, 2], [1], [1], [1, 1], [1], [1], [1]]) (by decide +kernel) (by decide +kernel) (by decide +kernel)
theorem sid7NY : SidOk sidF7 [(1, 2, 1)] 1 := sidOk_of (tab := [[1], [1], [0, 1], [0, 0, 1], [0, 0, 0, 1], [0, 0, 0, 0, 1], [0, 0, 0, 0, 0, 1], [1], [1], [0, 1], [0, 0, 1], [0, 0, 0, 1], [0, 0, 0, 0, 1], [1], [1], [0, 1], [0, 0, 1], [0, 0, 0, 1], [1], [1], [0, 1], [0, 0, 1], [1], [1], [0, 1], [1], [1], [1]]) (by decide +kernel) (by decide +kernel) (by decide +kernel)
theorem sid7YN : SidOk sidF7 [(1, 0, 1)] 1 := sidOk_of (tab := [[1], [1], [1, 0], [1, 0, 0], [1, 0, 0, 0], [1, 0, 0, 0, 0], [1, 0, 0, 0, 0, 0], [1], [1], [1, 0], [1, 0, 0], [1, 0, 0, 0], [1, 0, 0, 0, 0], [1], [1], [1, 0], [1, 0, 0], [1, 0, 0, 0], [1], [1], [1, 0], [1, 0, 0], [1], [1], [1, 0], [1], [1], [1]]) (by decide +kernel) (by decide +kernel) (by decide +kernel)
theorem sid7YY : SidOk sidF7 [(1, 0, 1), (1, 2, 1)] 0 := sidOk_of (tab := [[1], [1], [0, 0], [0, 0, 0], [0, 0, 0, 0], [0, 0, 0, 0, 0], [0, 0, 0, 0, 0, 0], [1], [1], [0, 0], [0, 0, 0], [0, 0, 0, 0], [0, 0, 0, 0, 0], [1], [1], [0, 0], [0, 0, 0], [0, 0, 0, 0], [1], [1], [0, 0], [0, 0, 0], [1], [1], [0, 0], [1], [1], [1]]) (by decide +kernel) (by decide +kernel) (by decide +kernel)
def sidF8 : Fo := ⟨[⟨0, 0, 1, [⟨0, [-1]⟩]⟩, ⟨0, 0, 3, [⟨1, [0, -2, 8]⟩]⟩, ⟨0, 0, 5, [⟨1, [0, -2, 9]⟩, ⟨1, [1, -4, 15]⟩]⟩, ⟨0, 0, 7, [⟨1, [0, -2, 10]⟩, ⟨1, [1, -4, 16]⟩, ⟨1, [2, -6, 21]⟩]⟩, ⟨0, 0, 9, [⟨1, [0, -2, 11]⟩, ⟨1, [1, -4, 17]⟩, ⟨1, [2, -6, 22]⟩, ⟨1, [3, -8, 26]⟩]⟩, ⟨0, 0, 11, [⟨1, [0, -2, 12]⟩, ⟨1, [1, -4, 18]⟩, ⟨1, [2, -6, 23]⟩, ⟨1, [3, -8, 27]⟩, ⟨1, [4, -10, 30]⟩]⟩, ⟨0, 0, 13, [⟨1, [0, -2, 13]⟩, ⟨1, [1, -4, 19]⟩, ⟨1, [2, -6, 24]⟩, ⟨1, [3, -8, 28]⟩, ⟨1, [4, -10, 31]⟩, ⟨1, [5, -12, 33]⟩]⟩, ⟨0, 0, 15, [⟨1, [0, -2, 14]⟩, ⟨1, [1, -4, 20]⟩, ⟨1, [2, -6, 25]⟩, ⟨1, [3, -8, 29]⟩, ⟨1, [4, -10, 32]⟩, ⟨1, [5, -12, 34]⟩, ⟨1, [6, -14, 35]⟩]⟩, ⟨0, 2, 3, [⟨0, [-3]⟩]⟩, ⟨0, 2, 5, [⟨1, [8, -4, 15]⟩]⟩, ⟨0, 2, 7, [⟨1, [8, -4, 16]⟩, ⟨1, [9, -6, 21]⟩]⟩, ⟨0, 2, 9, [⟨1, [8, -4, 17]⟩, ⟨1, [9, -6, 22]⟩, ⟨1, [10, -8, 26]⟩]⟩, ⟨0, 2, 11, [⟨1, [8, -4, 18]⟩, ⟨1, [9, -6, 23]⟩, ⟨1, [10, -8, 27]⟩, ⟨1, [11, -10, 30]⟩]⟩, ⟨0, 2, 13, [⟨1, [8, -4, 19]⟩, ⟨1, [9, -6, 24]⟩, ⟨1, [10, -8, 28]⟩, ⟨1, [11, -10, 31]⟩, ⟨1, [12, -12, 33]⟩]⟩, ⟨0, 2, 15, [⟨1, [8, -4, 20]⟩, ⟨1, [9, -6, 25]⟩, ⟨1, [10, -8, 29]⟩, ⟨1, [11, -10, 32]⟩, ⟨1, [12, -12, 34]⟩, ⟨1, [13, -14, 35]⟩]⟩, ⟨0, 4, 5, [⟨0, [-5]⟩]⟩, ⟨0, 4, 7, [⟨1, [15, -6, 21]⟩]⟩, ⟨0, 4, 9, [⟨1, [15, -6, 22]⟩, ⟨1, [16, -8, 26]⟩]⟩, ⟨0, 4, 11, [⟨1, [15, -6, 23]⟩, ⟨1, [16, -8, 27]⟩, ⟨1, [17, -10, 30]⟩]⟩, ⟨0, 4, 13, [⟨1, [15, -6, 24]⟩, ⟨1, [16, -8, 28]⟩, ⟨1, [17, -10, 31]⟩, ⟨1, [18, -12, 33]⟩]⟩, ⟨0, 4, 15, [⟨1, [15, -6, 25]⟩, ⟨1, [16, -8, 29]⟩, ⟨1, [17, -10, 32]⟩, ⟨1, [18, -12, 34]⟩, ⟨1, [19, -14, 35]⟩]⟩, ⟨0, 6, 7, [⟨0, [-7]⟩]⟩, ⟨0, 6, 9, [⟨1, [21, -8, 26]⟩]⟩, ⟨0, 6, 11, [⟨1, [21, -8, 27]⟩, ⟨1, [22, -10, 30]⟩]⟩, ⟨0, 6, 13, [⟨1, [21, -8, 28]⟩, ⟨1, [22, -10, 31]⟩, ⟨1, [23, -12, 33]⟩]⟩, ⟨0, 6, 15, [⟨1, [21, -8, 29]⟩, ⟨1, [22, -10, 32]⟩, ⟨1, [23, -12, 34]⟩, ⟨1, [24, -14, 35]⟩]⟩, ⟨0, 8, 9, [⟨0, [-9]⟩]⟩, ⟨0, 8, 11, [⟨1, [26, -10, 30]⟩]⟩, ⟨0, 8, 13, [⟨1, [26, -10, 31]⟩, ⟨1, [27, -12, 33]⟩]⟩, ⟨0, 8, 15, [⟨1, [26, -10, 32]⟩, ⟨1, [27, -12, 34]⟩, ⟨1, [28, -14, 35]⟩]⟩, ⟨0, 10, 11, [⟨0, [-11]⟩]⟩, ⟨0, 10, 13, [⟨1, [30, -12, 33]⟩]⟩, ⟨0, 10, 15, [⟨1, [30, -12, 34]⟩, ⟨1, [31, -14, 35]⟩]⟩, ⟨0, 12, 13, [⟨0, [-13]⟩]⟩, ⟨0, 12, 15, [⟨1, [33, -14, 35]⟩]⟩, ⟨0, 14, 15, [⟨0, [-15]⟩]⟩], 7⟩
theorem sidB8 : (buildF gS (ksS 7) 5000).1 = some sidF8 := isF_some (by decide +kernel)
theorem sid8NN : SidOk sidF8 [] 429 := sidOk_of (tab := [[1], [1], [1, 1], [2, 1, 2], [5, 2, 2, 5], [14, 5, 4, 5, 14], [42, 14, 10, 10, 14, 42], [132, 42, 28, 25, 28, 42, 132], [1], [1], [1, 1], [2, 1, 2], [5, 2, 2, 5], [14, 5, 4, 5, 14], [42, 14, 10, 10, 14, 42], [1], [1], [1, 1], [2, 1, 2], [5, 2, 2, 5], [14, 5, 4, 5, 14], [1], [1], [1, 1], [2, 1, 2], [5, 2, 2, 5], [1], [1], [1, 1], [2, 1, 2], [1], [1], [1, 1], [1], [1], [1]]) (by decide +kernel) (by decide +kernel) (by decide +kernel)
theorem sid8NY : SidOk sidF8 [(1, 2, 1)] 1 := sidOk_of (tab := [[1], [1], [0, 1], [0, 0, 1], [0, 0, 0, 1], [0, 0, 0, 0, 1], [0, 0, 0, 0, 0, 1], [0, 0, 0, 0, 0, 0, 1], [1], [1], [0, 1], [0, 0, 1], [0, 0, 0, 1], [0, 0, 0, 0, 1], [0, 0, 0, 0, 0, 1], [1], [1], [0, 1], [0, 0, 1], [0, 0, 0, 1], [0, 0, 0, 0, 1], [1], [1], [0, 1], [0, 0, 1], [0, 0, 0, 1], [1], [1], [0, 1], [0, 0, 1], [1], [1], [0, 1], [1], [1], [1]]) (by decide +kernel) (by decide +kernel) (by decide +kernel)
theorem sid8YN : SidOk sidF8 [(1, 0, 1)] 1 := sidOk_of (tab := [[1], [1], [1, 0], [1, 0, 0], [1, 0, 0, 0], [1, 0, 0, 0, 0], [1, 0, 0, 0, 0, 0], [1, 0, 0, 0, 0, 0, 0], [1], [1], [1, 0], [1, 0, 0], [1, 0, 0, 0], [1, 0, 0, 0, 0], [1, 0, 0, 0, 0, 0], [1], [1], [1, 0], [1, 0, 0], [1, 0, 0, 0], [1, 0, 0, 0, 0], [1], [1], [1, 0], [1, 0, 0], [1, 0, 0, 0], [1], [1], [1, 0], [1, 0, 0], [1], [1], [1, 0], [1], [1], [1]]) (by decide +kernel) (by decide +kernel) (by decide +kernel)
theorem sid8YY : SidOk sidF8 [(1, 0, 1), (1, 2, 1)] 0 := sidOk_of (tab := [[1], [1], [0, 0], [0, 0, 0], [0, 0, 0, 0], [0, 0, 0, 0, 0], [0, 0, 0, 0, 0, 0], [0, 0, 0, 0, 0, 0, 0], [1], [1], [0, 0], [0, 0, 0], [0, 0, 0, 0], [0, 0, 0, 0, 0], [0, 0, 0, 0, 0, 0], [1], [1], [0, 0], [0, 0, 0], [0, 0, 0, 0], [0, 0, 0, 0, 0], [1], [1], [0, 0], [0, 0, 0], [0, 0, 0, 0], [1], [1], [0, 0], [0, 0, 0], [1], [1], [0, 0], [1], [1], [1]]) (by decide +kernel) (by decide +kernel) (by decide +kernel)
def sidF9 : Fo := ⟨[⟨0, 0, 1, [⟨0, [-1]⟩]⟩, ⟨0, 0, 3, [⟨1, [0, -2, 9]⟩]⟩, ⟨0, 0, 5, [⟨1, [0, -2, 10]⟩, ⟨1, [1, -4, 17]⟩]⟩, ⟨0, 0, 7, [⟨1, [0, -2, 11]⟩, ⟨1, [1, -4, 18]⟩, ⟨1, [2, -6, 24]⟩]⟩, ⟨0, 0, 9, [⟨1, [0, -2, 12]⟩, ⟨1, [1, -4, 19]⟩, ⟨1, [2, -6, 25]⟩, ⟨1, [3, -8, 30]⟩]⟩, ⟨0, 0, 11, [⟨1, [0, -2, 13]⟩, ⟨1, [1, -4, 20]⟩, ⟨1, [2, -6, 26]⟩, ⟨1, [3, -8, 31]⟩, ⟨1, [4, -10, 35]⟩]⟩, ⟨0, 0, 13, [⟨1, [0, -2, 14]⟩, ⟨1, [1, -4, 21]⟩, ⟨1, [2, -6, 27]⟩, ⟨1, [3, -8, 32]⟩, ⟨1, [4, -10, 36]⟩, ⟨1, [5, -12, 39]⟩]⟩, ⟨0, 0, 15, [⟨1, [0, -2, 15]⟩, ⟨1, [1, -4, 22]⟩, ⟨1, [2, -6, 28]⟩, ⟨1, [3, -8, 33]⟩, ⟨1, [4, -10, 37]⟩, ⟨1, [5, -12, 40]⟩, ⟨1, [6, -14, 42]⟩]⟩, ⟨0, 0, 17, [⟨1, [0, -2, 16]⟩, ⟨1, [1, -4, 23]⟩, ⟨1, [2, -6, 29]⟩, ⟨1, [3, -8, 34]⟩, ⟨1, [4, -10, 38]⟩, ⟨1, [5, -12, 41]⟩, ⟨1, [6, -14, 43]⟩, ⟨1, [7, -16, 44]⟩]⟩, ⟨0, 2, 3, [⟨0, [-3]⟩]⟩, ⟨0, 2, 5, [⟨1, [9, -4, 17]⟩]⟩, ⟨0, 2, 7, [⟨1, [9, -4, 18]⟩, ⟨1, [10, -6, 24]⟩]⟩, ⟨0, 2, 9, [⟨1, [9, -4, 19]⟩, ⟨1, [10, -6, 25]⟩, ⟨1, [11, -8, 30]⟩]⟩, ⟨0, 2, 11, [⟨1, [9, -4, 20]⟩, ⟨1, [10, -6, 26]⟩, ⟨1, [11, -8, 31]⟩, ⟨1, [12, -10, 35]⟩]⟩, ⟨0, 2, 13, [⟨1, [9, -4, 21]⟩, ⟨1, [10, -6, 27]⟩, ⟨1, [11, -8, 32]⟩, ⟨1, [12, -10, 36]⟩, ⟨1, [13, -12, 39]⟩]⟩, ⟨0, 2, 15, [⟨1, [9, -4, 22]⟩, ⟨1, [10, -6, 28]⟩, ⟨1, [11, -8, 33]⟩, ⟨1, [12, -10, 37]⟩, ⟨1, [13, -12, 40]⟩, ⟨1, [14, -14, 42]⟩]⟩, ⟨0, 2, 17, [⟨1, [9, -4, 23]⟩, ⟨1, [10, -6, 29]⟩, ⟨1, [11, -8, 34]⟩, ⟨1, [12, -10, 38]⟩, ⟨1, [13, -12, 41]⟩, ⟨1, [14, -14, 43]⟩, ⟨1, [15, -16, 44]⟩]⟩, ⟨0, 4, 5, [⟨0, [-5]⟩]⟩, ⟨0, 4, 7, [⟨1, [17, -6, 24]⟩]⟩, ⟨0, 4, 9, [⟨1, [17, -6, 25]⟩, ⟨1, [18, -8, 30]⟩]⟩, ⟨0, 4, 11, [⟨1, [17, -6, 26]⟩, ⟨1, [18, -8, 31]⟩, ⟨1, [19, -10, 35]⟩]⟩, ⟨0, 4, 13, [⟨1, [17, -6, 27]⟩, ⟨1, [18, -8, 32]⟩, ⟨1, [19, -10, 36]⟩, ⟨1, [20, -12, 39]⟩]⟩, ⟨0, 4, 15, [⟨1, [17, -6, 28]⟩, ⟨1, [18, -8, 33]⟩, ⟨1, [19, -10, 37]⟩, ⟨1, [20, -12, 40]⟩, ⟨1, [21, -14, 42]⟩]⟩, ⟨0, 4, 17, [⟨1, [17, -6, 29]⟩, ⟨1, [18, -8, 34]⟩, ⟨1, [19, -10, 38]⟩, ⟨1, [20, -12, 41]⟩, ⟨1, [21, -14, 43]⟩, ⟨1, [22, -16, 44]⟩]⟩, ⟨0, 6, 7, [⟨0, [-7]⟩]⟩, ⟨0, 6, 9, [⟨1, [24, -8, 30]⟩]⟩, ⟨0, 6, 11, [⟨1, [24, -8, 31]⟩, ⟨1, [25, -10, 35]⟩]⟩, ⟨0, 6, 13, [⟨1, [24, -8, 32]⟩, ⟨1, [25, -10, 36]⟩, ⟨1, [26, -12, 39]⟩]⟩, ⟨0, 6, 15, [⟨1, [24, -8, 33]⟩, ⟨1, [25, -10, 37]⟩, ⟨1, [26, -12, 40]⟩, ⟨1, [27, -14, 42]⟩]⟩, ⟨0, 6, 17, [⟨1, [24, -8, 34]⟩, ⟨1, [25, -10, 38]⟩, ⟨1, [26, -12, 41]⟩, ⟨1, [27, -14, 43]⟩, ⟨1, [28, -16, 44]⟩]⟩, ⟨0, 8, 9, [⟨0, [-9]⟩]⟩, ⟨0, 8, 11, [⟨1, [30, -10, 35]⟩]⟩, ⟨0, 8, 13, [⟨1, [30, -10, 36]⟩, ⟨1, [31, -12, 39]⟩]⟩, ⟨0, 8, 15, [⟨1, [30, -10, 37]⟩, ⟨1, [31, -12, 40]⟩, ⟨1, [32, -14, 42]⟩]⟩, ⟨0, 8, 17, [⟨1, [30, -10, 38]⟩, ⟨1, [31, -12, 41]⟩, ⟨1, [32, -14, 43]⟩, ⟨1, [33, -16, 44]⟩]⟩, ⟨0, 10, 11, [⟨0, [-11]⟩]⟩, ⟨0, 10, 13, [⟨1, [35, -12, 39]⟩]⟩, ⟨0, 10, 15, [⟨1, [35, -12, 40]⟩, ⟨1, [36, -14, 42]⟩]⟩, ⟨0, 10, 17, [⟨1, [35, -12, 41]⟩, ⟨1, [36, -14, 43]⟩, ⟨1, [37, -16, 44]⟩]⟩, ⟨0, 12, 13, [⟨0, [-13]⟩]⟩, ⟨0, 12, 15, [⟨1, [39, -14, 42]⟩]⟩, ⟨0, 12, 17, [⟨1, [39, -14, 43]⟩, ⟨1, [40, -16, 44]⟩]⟩, ⟨0, 14, 15, [⟨0, [-15]⟩]⟩, ⟨0, 14, 17, [⟨1, [42, -16, 44]⟩]⟩, ⟨0, 16, 17, [⟨0, [-17]⟩]⟩], 8⟩
theorem sidB9 : (buildF gS (ksS 8) 5000).1 = some sidF9 := isF_some (by decide +kernel)
theorem sid9NN : SidOk sidF9 [] 1430 := sidOk_of (tab := [[1], [1], [1, 1], [2, 1, 2], [5, 2, 2, 5], [14, 5, 4, 5, 14], [42, 14, 10, 10, 14, 42], [132, 42, 28, 25, 28, 42, 132], [429, 132, 84, 70, 70, 84, 132, 429], [1], [1], [1, 1], [2, 1, 2], [5, 2, 2, 5], [14, 5, 4, 5, 14], [42, 14, 10, 10, 14, 42], [132, 42, 28, 25, 28, 42, 132], [1], [1], [1, 1], [2, 1, 2], [5, 2, 2, 5], [14, 5, 4, 5, 14], [42, 14, 10, 10, 14, 42], [1], [1], [1, 1], [2, 1, 2], [5, 2, 2, 5], [14, 5, 4, 5, 14], [1], [1], [1, 1], [2, 1, 2], [5, 2, 2, 5], [1], [1], [1, 1], [2, 1, 2], [1], [1], [1, 1], [1], [1], [1]]) (by decide +kernel) (by decide +kernel) (by decide +kernel)
theorem sid9NY : SidOk sidF9 [(1, 2, 1)] 1 := sidOk_of (tab := [[1], [1], [0, 1], [0, 0, 1], [0, 0, 0, 1], [0, 0, 0, 0, 1], [0, 0, 0, 0, 0, 1], [0, 0, 0, 0, 0, 0, 1], [0, 0, 0, 0, 0, 0, 0, 1], [1], [1], [0, 1], [0, 0, 1], [0, 0, 0, 1], [0, 0, 0, 0, 1], [0, 0, 0, 0, 0, 1], [0, 0, 0, 0, 0, 0, 1], [1], [1], [0, 1], [0, 0, 1], [0, 0, 0, 1], [0, 0, 0, 0, 1], [0, 0, 0, 0, 0, 1], [1], [1], [0, 1], [0, 0, 1], [0, 0, 0, 1], [0, 0, 0, 0, 1], [1], [1], [0, 1], [0, 0, 1], [0, 0, 0, 1], [1], [1], [0, 1], [0, 0, 1], [1], [1], [0, 1], [1], [1], [1]]) (by decide +kernel) (by decide +kernel) (by decide +kernel)
theorem sid9YN : SidOk sidF9 [(1, 0, 1)] 1 := sidOk_of (tab := [[1], [1], [1, 0], [1, 0, 0], [1, 0, 0, 0], [1, 0, 0, 0, 0], [1, 0, 0, 0, 0, 0], [1, 0, 0, 0, 0, 0, 0], [1, 0, 0, 0, 0, 0, 0, 0], [1], [1], [1, 0], [1, 0, 0], [1, 0, 0, 0], [1, 0, 0, 0, 0], [1, 0, 0, 0, 0, 0], [1, 0, 0, 0, 0, 0, 0], [1], [1], [1, 0], [1, 0, 0], [1, 0, 0, 0], [1, 0, 0, 0, 0], [1, 0, 0, 0, 0, 0], [1], [1], [1, 0], [1, 0, 0], [1, 0, 0, 0], [1, 0, 0, 0, 0], [1], [1], [1, 0], [1, 0, 0], [1, 0, 0, 0], [1], [1], [1, 0], [1, 0, 0], [1], [1], [1, 0], [1], [1], [1]]) (by decide +kernel) (by decide +kernel) (by decide +kernel)
theorem sid9YY : SidOk sidF9 [(1, 0, 1), (1, 2, 1)] 0 := sidOk_of (tab := [[1], [1], [0, 0], [0, 0, 0], [0, 0, 0, 0], [0, 0, 0, 0, 0], [0, 0, 0, 0, 0, 0], [0, 0, 0, 0, 0, 0, 0], [0, 0, 0, 0, 0, 0, 0, 0], [1], [1], [0, 0], [0, 0, 0], [0, 0, 0, 0], [0, 0, 0, 0, 0], [0, 0, 0, 0, 0, 0], [0, 0, 0, 0, 0, 0, 0], [1], [1], [0, 0], [0, 0, 0], [0, 0, 0, 0], [0, 0, 0, 0, 0], [0, 0, 0, 0, 0, 0], [1], [1], [0, 0], [0, 0, 0], [0, 0, 0, 0], [0, 0, 0, 0, 0], [1], [1], [0, 0], [0, 0, 0], [0, 0, 0, 0], [1], [1], [0, 0], [0, 0, 0], [1], [1], [0, 0], [1], [1], [1]]) (by decide +kernel) (by decide +kernel) (by decide +kernel)
theorem sid_chk : chkF gS = 0 := by decide +kernel
theorem sid_all {m : Nat} (h1 : 1 ≤ m) (h9 : m ≤ 9) (l r : Bool) : ∃ f, (buildF gS (ksS (m - 1)) 5000).1 = some f ∧ SidOk f (fbOf l r) (wantF m l r) := by
  match m, h1, h9 with
  | 1, _, _ => exact ⟨sidF1, sidB1, match l, r with | false, false => sid1NN | false, true => sid1NY | true, false => sid1YN | true, true => sid1YY⟩
  | 2, _, _ => exact ⟨sidF2, sidB2, match l, r with | false, false => sid2NN | false, true => sid2NY | true, false => sid2YN | true, true => sid2YY⟩
  | 3, _, _ => exact ⟨sidF3, sidB3, match l, r with | false, false => sid3NN | false, true => sid3NY | true, false => sid3YN | true, true => sid3YY⟩
  | 4, _, _ => exact ⟨sidF4, sidB4, match l, r with | false, false => sid4NN | false, true => sid4NY | true, false => sid4YN | true, true => sid4YY⟩
  | 5, _, _ => exact ⟨sidF5, sidB5, match l, r with | false, false => sid5NN | false, true => sid5NY | true, false => sid5YN | true, true => sid5YY⟩
  | 6, _, _ => exact ⟨sidF6, sidB6, match l, r with | false, false => sid6NN | false, true => sid6NY | true, false => sid6YN | true, true => sid6YY⟩
  | 7, _, _ => exact ⟨sidF7, sidB7, match l, r with | false, false => sid7NN | false, true => sid7NY | true, false => sid7YN | true, true => sid7YY⟩
  | 8, _, _ => exact ⟨sidF8, sidB8, match l, r with | false, false => sid8NN | false, true => sid8NY | true, false => sid8YN | true, true => sid8YY⟩
  | 9, _, _ => exact ⟨sidF9, sidB9, match l, r with | false, false => sid9NN | false, true => sid9NY | true, false => sid9YN | true, true => sid9YY⟩
end Go.Proofs.Ytnlmfhnjjblhoaa.Ab
/- Chapter 23's law of sides: the walk. No condition. -/
set_option linter.unusedVariables false
set_option linter.unusedSimpArgs false
namespace Go.Proofs.Ytnlmfhnjjblhoaa.Ab
attribute [local irreducible] thenA inBlockA ACode AOps put IntKind.wrap

def gSf (fb : List F3) : Gr := ⟨1, 2, 0, gS.rules, fb, [], []⟩
theorem chk_fb (l r : Bool) : chkF (gSf (fbOf l r)) = 0 := by cases l <;> cases r <;> decide +kernel
theorem gSf_ok {fb : List F3} (h : fb.length ≤ 2) : GrOk (gSf fb) := by
  refine ⟨by show ([] : List Int).length ≤ _; decide, by show ([] : List Int).length ≤ _; decide, by show fb.length ≤ _; omega, by show gS.rules.length ≤ _; decide, ?_⟩
  show ∀ r ∈ gS.rules, r.right.length ≤ 9223372036854775807 ∧ ∀ s ∈ r.right, -9223372036854775808 ≤ s ∧ s ≤ 9223372036854775807
  decide
def gSx (fb : List F3) : A := .agg [.int .i64 1, .int .i64 2, .int .i64 0, .psl 2 (encs ruC gS.rules), .psl fb.length (encs f3C fb), .nils, .nils]
theorem vw_gS (fb : List F3) : Vw [] (gSx fb) (grA (gSf fb)) := .agg (.cons (.refl _) (.cons (.refl _) (.cons (.refl _) (.cons (.refl _) (.cons (.refl _) (.cons .nils (.cons .nils .nil)))))))
theorem sid_build {m : Nat} {f : Fo} (hm : m ≤ 9) {l r : Bool} (hbf : (buildF gS (ksS m) 5000).1 = some f) (M : List Ob) : ACalls Try.prog 21 [gSx (fbOf l r), .psl (ksS m).length (ints (ksS m)), .int .i64 5000] M (fun r M' => r = .tup [foA f, .int .i64 (ksS m).length, .int .i64 0] ∧ M' = M) := by
  have hl := ksS_len m
  have hbc := build_calls (g := gSf (fbOf l r)) (ks := ksS m) (N := 1) (n := (ksS m).length) (lim := 5000) (gSf_ok (by cases l <;> cases r <;> decide)) (chk_fb l r) rfl rfl (by omega) (by omega) M
  refine (acalls_arg (.cons (vw_gS _) (.cons (.refl _) (.cons (.refl _) .nil))) hbc).mono ?_
  have he := buildF_eq (g := gSf (fbOf l r)) (h := gS) rfl rfl rfl (ksS m) 5000
  rintro x M' ⟨⟨a, e, _, h1, rfl⟩ | ⟨f', h1, _, _, rfl⟩, rfl⟩
  · rw [he, hbf] at h1; cases h1
  · rw [he, hbf] at h1; cases h1
    exact ⟨rfl, rfl⟩
set_option maxHeartbeats 32000000 in
theorem sides_main {n : Int} {l r : Bool} : ACalls Try.prog 6 [.int .i64 n, .bool l, .bool r] [] (fun r _ => r = .bool true) := by
  have hgr : great = 4611686018427387903 := rfl
  refine acalls_of_code 102 Try.func6 rfl rfl rfl ?_
  repeat (first | refine aops_end ?_ | refine aops_p tok rfl rfl rfl rfl ?_ | refine acode_seq ?_ | refine acode_region ?_)
  refine aops_callx Try.func20 rfl rfl rfl rfl (alive23_calls _) rfl rfl rfl ?_
  by_cases h1 : 1 ≤ n
  rotate_left
  · repeat' (first | refine aops_end ?_ | refine aops_o rfl rfl rfl ?_ | refine aops_pbt tok rfl (by first | omega | decide) rfl rfl rfl ?_ | refine aops_pet tok rfl (by omega) rfl rfl rfl ?_ | refine aops_p tok rfl rfl rfl rfl ?_ | refine acode_it rfl ?_ | refine acode_seq ?_ | refine acode_region ?_)
    try any_goals (exfalso; omega)
    refine acode_ret ?_
    repeat (refine ret_then ?_)
    exact ⟨_, rfl, resOf_tmp rfl⟩
  by_cases h9 : n ≤ 9
  rotate_left
  · repeat' (first | refine aops_end ?_ | refine aops_pbt tok rfl (by first | omega | decide) rfl rfl rfl ?_ | refine aops_pbf tok rfl (by first | omega | decide) rfl rfl rfl ?_ | refine aops_pet tok rfl (by omega) rfl rfl rfl ?_ | refine aops_p tok rfl rfl rfl rfl ?_ | refine acode_it rfl ?_ | refine acode_seq ?_ | refine acode_region ?_)
    try any_goals (exfalso; omega)
    refine acode_ret ?_
    repeat (refine ret_then ?_)
    exact ⟨_, rfl, resOf_tmp rfl⟩
  obtain ⟨m, rfl⟩ : ∃ m : Nat, n = (m : Int) + 1 := ⟨(n - 1).toNat, by omega⟩
  obtain ⟨f, hbf, tab, hsm, htab, hsum⟩ := sid_all (m := m + 1) (by omega) (by omega) l r
  rw [Nat.add_sub_cancel] at hbf
  have hbc := sid_build (m := m) (l := l) (r := r) (by omega) hbf
  have hks := ksS_len m
  obtain ⟨F, o, B⟩ := blt_of (g := gSf (fbOf l r)) (N := 1) (chk_fb l r) rfl (by rw [buildF_eq (g := gSf (fbOf l r)) (h := gS) rfl rfl rfl]; exact hbf)
  have hF := blt_form B
  have hw := hF.2 _ (by have := hF.1; omega : f.root.toNat < f.nodes.length)
  have hfc : fcnt (gSf (fbOf l r)) f = wantF (m + 1) l r := by
    unfold fcnt
    show sumN (ftr (fbOf l r) f f.root.toNat) = _
    rw [ftr_tab htab hw, hsum]
  obtain ⟨hf, hrg⟩ := sm_fo hsm
  have hfl : (fbOf l r).length ≤ 2 := by cases l <;> cases r <;> decide
  have hC := fun M => acalls_arg (.cons (vw_gS (fbOf l r)) (.cons (.refl _) .nil)) (yes_of hF (fcount_calls (g := gSf (fbOf l r)) (by show (fbOf l r).length ≤ _; omega) hf M))
  rw [hfc] at hC
  obtain ⟨w, hwm⟩ : ∃ w, sidW[m]? = some w := ⟨sidW[m]'(by show m < 9; omega), List.getElem?_eq_getElem _⟩
  have hwd : sidW.getD (m + 1 - 1) 0 = w := by rw [Nat.add_sub_cancel, List.getD_eq_getElem?_getD, hwm]; rfl
  have hwb : w ≤ 1430 := by
    have : ∀ x ∈ sidW, x ≤ 1430 := by decide
    exact this w (List.mem_of_getElem? hwm)
  have hwF : wantF (m + 1) l r = if (l && r) = true ∧ 2 < m + 1 then 0 else if (l || r) = true ∧ 1 < m + 1 then 1 else w := by unfold wantF; rw [hwd]
  have hlt : wantF (m + 1) l r < great := by rw [hwF]; split <;> (try split) <;> omega
  rw [decide_eq_true hlt] at hC
  clear hfc hsum hlt
  generalize wantF (m + 1) l r = wt at *
  repeat' (first | refine aops_end ?_ | refine aops_pbf tok rfl (by first | omega | decide) rfl rfl rfl ?_ | refine aops_p tok rfl rfl rfl rfl ?_ | refine acode_if rfl ?_ | refine acode_seq ?_ | refine acode_region ?_ | refine acode_skip ?_ | refine then_n ?_)
  try any_goals (exfalso; omega)
  refine aops_litn tok rfl rfl rfl rfl rfl rfl rfl ?_
  repeat (refine aops_p tok rfl rfl rfl rfl ?_)
  refine aops_litn tok rfl rfl rfl rfl rfl rfl rfl ?_
  repeat (refine aops_p tok rfl rfl rfl rfl ?_)
  refine aops_litn tok rfl rfl rfl rfl rfl rfl rfl ?_
  repeat (refine aops_p tok rfl rfl rfl rfl ?_)
  refine aops_alloc tok rfl rfl rfl rfl rfl rfl fun gb => ?_
  repeat (refine aops_stn tok rfl rfl rfl rfl rfl rfl rfl rfl rfl ?_)
  refine aops_adoptF 4 rfl rfl ?_
  refine aops_end ?_
  repeat (first | refine acode_seq ?_ | refine acode_region ?_)
  repeat (refine aops_p tok rfl rfl rfl rfl ?_)
  refine aops_end ?_
  refine acode_joinI (ι := Option Nat × Nat) (fun p => [(0, .int .i64 ((m : Int) + 1)), (1, .bool l), (2, .bool r), (8, .ref gb 0)]) (fun p => ⟨some gb, 7, [.int .i64 1, .int .i64 2, .int .i64 0, .psl 2 (encs ruC gS.rules), .own p.1 (fbL l).length p.2, .nils, .nils]⟩ :: ⟨p.1, p.2 * 3, encs f3C (fbL l)⟩ :: []) (fun _ => True) ?_ ?_
  · cases l with
    | false =>
      repeat' (first | refine acode_if rfl ?_ | refine acode_skip ?_ | refine then_n ?_)
      exact ⟨(none, 0), trivial, ⟨rfl, rfl, rfl, rfl, trivial⟩, rfl⟩
    | true =>
      repeat' (first | refine aops_p tok rfl rfl rfl rfl ?_ | refine acode_it rfl ?_ | refine aops_ld tok 0 rfl rfl rfl rfl rfl rfl rfl rfl ?_ | refine acode_region ?_)
      refine aops_litn tok rfl rfl rfl rfl rfl rfl rfl ?_
      refine aops_append tok 1 (m := 1) (ds := f3C (1, 0, 1)) rfl rfl rfl (.inl rfl) rfl rfl rfl rfl rfl rfl (by decide) (by decide) rfl rfl fun ob' cap' => ?_
      refine aops_put rfl ?_
      refine aops_somed 40 rfl (by omega) fun c hc => ?_
      subst hc
      repeat (first | refine aops_end ?_ | refine aops_p tok rfl rfl rfl rfl ?_ | refine aops_stn tok rfl rfl rfl rfl rfl rfl rfl rfl rfl ?_)
      exact ⟨(some c, cap'), trivial, ⟨rfl, rfl, rfl, rfl, trivial⟩, rfl⟩
  rintro ⟨fo1, fc1⟩ -
  repeat (first | refine acode_seq ?_ | refine acode_region ?_)
  repeat (refine aops_p tok rfl rfl rfl rfl ?_)
  refine aops_end ?_
  refine acode_joinI (ι := Option Nat × Nat) (fun p => [(0, .int .i64 ((m : Int) + 1)), (1, .bool l), (2, .bool r), (8, .ref gb 0)]) (fun p => ⟨some gb, 7, [.int .i64 1, .int .i64 2, .int .i64 0, .psl 2 (encs ruC gS.rules), .own p.1 (fbOf l r).length p.2, .nils, .nils]⟩ :: ⟨p.1, p.2 * 3, encs f3C (fbOf l r)⟩ :: []) (fun _ => True) ?_ ?_
  · cases r with
    | false =>
      repeat' (first | refine acode_if rfl ?_ | refine acode_skip ?_ | refine then_n ?_)
      exact ⟨(fo1, fc1), trivial, ⟨rfl, rfl, rfl, rfl, trivial⟩, by simp [fbOf, fbR]⟩
    | true =>
      have hfl1 : (fbL l).length ≤ 1 := by cases l <;> decide
      repeat' (first | refine aops_p tok rfl rfl rfl rfl ?_ | refine acode_it rfl ?_ | refine aops_ld tok 0 rfl rfl rfl rfl rfl rfl rfl rfl ?_ | refine acode_region ?_)
      refine aops_litn tok rfl rfl rfl rfl rfl rfl rfl ?_
      refine aops_append tok 1 (m := 1) (ds := f3C (1, 2, 1)) rfl rfl rfl (.inl rfl) rfl rfl (encs_len (e := f3C) (s := 3) (fun _ => rfl) (fbL l)) rfl rfl rfl (by show _ * 24 ≤ _; omega) (by omega) rfl rfl fun ob' cap' => ?_
      refine aops_put rfl ?_
      refine aops_somed 47 rfl (by omega) fun c hc => ?_
      subst hc
      repeat (first | refine aops_end ?_ | refine aops_p tok rfl rfl rfl rfl ?_ | refine aops_stn tok rfl rfl rfl rfl rfl rfl rfl rfl rfl ?_)
      refine ⟨(some c, cap'), trivial, ⟨rfl, rfl, rfl, rfl, trivial⟩, ?_⟩
      simp only [fbOf, fbR, encs_app, List.length_append, if_true]
      rfl
  rintro ⟨fo2, fc2⟩ -
  refine acode_pubFld (sz := 3) 4 rfl rfl (encs_len (e := f3C) (s := 3) (fun _ => rfl) _) (by decide) rfl ?_
  refine acode_pubref0 8 rfl ?_
  repeat (first | refine acode_seq ?_ | refine acode_region ?_)
  refine aops_lito tok rfl rfl rfl rfl rfl rfl rfl fun kb => ?_
  repeat (first | refine aops_end ?_ | refine aops_p tok rfl rfl rfl rfl ?_ | refine acode_seq ?_ | refine acode_region ?_ | refine acode_block ?_)
  refine acode_loopS (ι := Nat × Option Nat × Nat) (fun p => [(0, .int .i64 ((m : Int) + 1)), (1, .bool l), (2, .bool r), (8, .pp [.int .i64 1, .int .i64 2, .int .i64 0, .psl 2 (encs ruC gS.rules), .psl (fbOf l r).length (encs f3C (fbOf l r)), .nils, .nils]), (9, .own p.2.1 (ksS p.1).length p.2.2), (10, .int .i64 ((p.1 : Int) + 1))]) (fun p => ⟨p.2.1, p.2.2 * 1, ints (ksS p.1)⟩ :: []) (fun p => m - p.1) (fun p => p.1 ≤ m) (0, some kb, 1) (Nat.zero_le _) ⟨rfl, rfl, rfl, rfl, rfl, rfl, trivial⟩ rfl ?_
  rintro ⟨j, ob, cap⟩ hj
  simp only at hj ⊢
  have hjl := ksS_len j
  repeat (first | refine aops_end ?_ | refine aops_p tok rfl rfl rfl rfl ?_ | refine acode_seq ?_ | refine acode_region ?_)
  refine acode_id rfl (fun e => ?_) (fun e => ?_)
  · repeat (first | refine aops_p tok rfl rfl rfl rfl ?_ | refine acode_seq ?_ | refine acode_region ?_ | refine acode_block ?_ | refine acode_skip ?_ | refine then_n ?_)
    refine aops_litn tok rfl rfl rfl rfl rfl rfl rfl ?_
    refine aops_append tok 0 (m := 2) (ds := ints [1, 0]) rfl rfl rfl (.inl rfl) rfl rfl (by rw [ints_len]; exact (Nat.mul_one _).symm) rfl rfl rfl (by show _ * 8 ≤ _; omega) (by omega) rfl rfl fun ob' cap' => ?_
    repeat (first | refine aops_put rfl ?_ | refine aops_end ?_ | refine aops_endb ?_ | refine aops_a tok rfl (by omega) (by omega) rfl rfl rfl ?_ | refine aops_p tok rfl rfl rfl rfl ?_ | refine acode_region ?_ | refine then_n ?_)
    refine ⟨(j + 1, ob', cap'), by simp only; omega, by simp only; omega, ⟨rfl, rfl, rfl, rfl, by rw [ksS, List.length_append]; rfl, congrArg (A.int .i64) (by omega), trivial⟩, ?_⟩
    simp only [ksS, ints_app]
    rfl
  · obtain rfl : j = m := by omega
    refine acode_exit ?_
    repeat (first | refine exit_then ?_ | refine exit_here ?_ | refine then_n ?_)
    refine acode_pub0 9 1 rfl rfl (by rw [ints_len, Nat.mul_one]) rfl ?_
    repeat (first | refine aops_p tok rfl rfl rfl rfl ?_ | refine acode_seq ?_ | refine acode_region ?_)
    refine aops_callx Try.func21 rfl rfl rfl rfl (hbc _) rfl rfl rfl ?_
    repeat (refine aops_p tok rfl rfl rfl rfl ?_)
    refine aops_alloc tok rfl rfl rfl rfl rfl rfl fun xb => ?_
    repeat (first | refine aops_p tok rfl rfl rfl rfl ?_ | refine aops_stn tok rfl rfl rfl rfl rfl rfl rfl rfl rfl ?_)
    refine aops_pubref0 11 rfl ?_
    repeat (first | refine aops_end ?_ | refine aops_p tok rfl rfl rfl rfl ?_ | refine acode_seq ?_ | refine acode_region ?_)
    refine aops_callx Try.func22 rfl rfl rfl rfl (hC _) rfl rfl rfl ?_
    repeat (first | refine aops_end ?_ | refine aops_p tok rfl rfl rfl rfl ?_ | refine acode_seq ?_ | refine acode_region ?_)
    refine aops_litn tok rfl rfl rfl rfl rfl rfl rfl ?_
    repeat (first | refine aops_a tok rfl (by omega) (by omega) rfl rfl rfl ?_ | refine aops_p tok rfl rfl rfl rfl ?_)
    have hp : [A.int .i64 w] <+: (ints sidW).drop (((j : Int) + 1 - 1).toNat * 1) := by
      rw [show ((j : Int) + 1 - 1).toNat = (j : Int).toNat by omega]
      exact ints_at (l := sidW) (j := j) (by simpa using hwm)
    refine aops_ix tok [A.int .i64 w] rfl rfl rfl rfl (by omega) (by omega) (by simp) hp rfl rfl rfl ?_
    clear hC hbc
    cases l <;> cases r <;> simp only [Bool.and_true, Bool.and_false, Bool.or_true, Bool.or_false, Bool.false_or, Bool.false_eq_true, false_and, true_and, if_false] at hwF <;> (repeat' (first | refine aops_end ?_ | refine aops_o rfl rfl rfl ?_ | refine aops_pbt tok rfl (by first | omega | decide) rfl rfl rfl ?_ | refine aops_pbf tok rfl (by first | omega | decide) rfl rfl rfl ?_ | (refine aops_pd tok rfl rfl rfl rfl ?_ ?_ <;> intro e_) | refine aops_p tok rfl rfl rfl rfl ?_ | refine acode_it rfl ?_ | refine acode_if rfl ?_ | refine acode_seq ?_ | refine acode_region ?_ | refine acode_skip ?_ | refine then_n ?_)) <;> (try (exfalso; omega)) <;> (refine acode_ret ?_) <;> (skip) <;> exact ⟨_, rfl, resOf_tmp rfl⟩
theorem filterSides_calls (zs : List A) (h : GoodL T [3, 4, 4] zs) : ACalls Try.prog 6 zs [] (fun r _ => r = .bool true) := by
  obtain ⟨_, _, rfl, ⟨f1, g1⟩, _, _, rfl, ⟨f2, g2⟩, _, _, rfl, ⟨f3, g3⟩, rfl⟩ := h
  obtain ⟨n, rfl, _⟩ := good_int (k := .i64) rfl g1
  obtain ⟨l, rfl⟩ := good_bool rfl g2
  obtain ⟨r, rfl⟩ := good_bool rfl g3
  exact sides_main
end Go.Proofs.Ytnlmfhnjjblhoaa.Ab
