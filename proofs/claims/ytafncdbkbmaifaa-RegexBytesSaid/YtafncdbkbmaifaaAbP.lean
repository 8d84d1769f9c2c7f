/- Rows of numbers as cells; truths. No condition. -/
import Derived.Test.YtafncdbkbmaifaaAbN
set_option linter.unusedVariables false
set_option linter.unusedSimpArgs false
namespace Go.Proofs.Ytafncdbkbmaifaa.Ab
def ints (l : List Int) : List A := l.map (A.int .i64)
def rng (n : Int) : Prop := -9223372036854775808 ≤ n ∧ n ≤ 9223372036854775807
theorem ints_at {l : List Int} {j : Int} {x : Int} (h : l[j.toNat]? = some x) : [A.int .i64 x] <+: (ints l).drop (j.toNat * 1) := by
  rw [Nat.mul_one]
  have hlt : j.toNat < l.length := (List.getElem?_eq_some_iff.1 h).1
  rw [List.drop_eq_getElem_cons (by simpa [ints] using hlt)]
  have h2 : (ints l)[j.toNat]? = some (.int .i64 x) := by simp [ints, h]
  rw [List.getElem?_eq_some_iff] at h2
  obtain ⟨h3, h4⟩ := h2
  rw [h4]
  exact ⟨(ints l).drop (j.toNat + 1), rfl⟩
theorem bt {p : Prop} [Decidable p] (h : p) : A.bool true = A.bool (decide p) := by rw [decide_eq_true h]
theorem bf {p : Prop} [Decidable p] (h : ¬ p) : A.bool false = A.bool (decide p) := by rw [decide_eq_false h]
theorem ints_len (l : List Int) : (ints l).length = l.length := by simp [ints]
theorem ints_len1 (l : List Int) : (ints l).length = l.length * 1 := by simp [ints]
theorem ints_app (l m : List Int) : ints (l ++ m) = ints l ++ ints m := by simp [ints]
theorem ints_cell (l : List Int) : (ints l).all A.isCell = true := by simp [ints, A.isCell]
theorem ints_zeros (n : Nat) : zerosA [A.int .i64 0] n = ints (List.replicate n 0) := by rw [zerosA_one]; simp [ints]
/-- A row's number, as the cell is loaded. -/
theorem ints_get {l : List Int} {j : Nat} {x : Int} (h : l[j]? = some x) : (ints l)[j]? = some (A.int .i64 x) := by simp [ints, h]
theorem ints_set {l : List Int} {j : Nat} (h : j < l.length) (x : Int) : (ints l).take j ++ ([A.int .i64 x] ++ (ints l).drop (j + 1)) = ints (l.set j x) := by
  rw [List.set_eq_take_append_cons_drop, if_pos h]; simp [ints]
theorem ints_set1 {l : List Int} {j : Nat} (h : j < l.length) (x : Int) : (ints l).take (j * 1) ++ ([A.int .i64 x] ++ (ints l).drop (j * 1 + 1)) = ints (l.set j x) := by
  rw [Nat.mul_one]; exact ints_set h x
theorem encs_len {α : Type} {e : α → List A} {s : Nat} (hs : ∀ x, (e x).length = s) (l : List α) : (encs e l).length = l.length * s := by
  induction l with
  | nil => simp [encs]
  | cons x l ih => simp only [encs, List.flatMap_cons, List.length_append, hs, List.length_cons] at *; rw [ih, Nat.add_mul]; omega
theorem encs_app {α : Type} (e : α → List A) (l m : List α) : encs e (l ++ m) = encs e l ++ encs e m := by simp [encs]
theorem encs_cell {α : Type} {e : α → List A} (h : ∀ x, (e x).all A.isCell = true) (l : List α) : (encs e l).all A.isCell = true := by
  induction l with
  | nil => rfl
  | cons x l ih => simp only [encs, List.flatMap_cons, List.all_append, h, Bool.true_and] at *; exact ih
end Go.Proofs.Ytafncdbkbmaifaa.Ab
