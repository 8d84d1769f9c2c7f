/- Trees held against each other, and their tokens, in plain terms. No condition. -/
import Derived.Test.YtnlmfhnjjblhoaaTre1
set_option linter.unusedVariables false
set_option linter.unusedSimpArgs false
namespace Go.Proofs.Ytnlmfhnjjblhoaa.Ab
mutual
def eqT : Tr → Tr → Bool
  | .mk r t ks, .mk r' t' ks' => decide (r = r') && decide (t = t') && eqTs ks ks'
def eqTs : List Tr → List Tr → Bool
  | [], [] => true
  | x :: l, y :: m => eqT x y && eqTs l m
  | [], _ :: _ => false
  | _ :: _, [] => false
end
mutual
theorem eqT_iff : ∀ x y : Tr, eqT x y = true ↔ x = y
  | .mk r t ks, .mk r' t' ks' => by
    have h := eqTs_iff ks ks'
    rw [eqT, Bool.and_eq_true, Bool.and_eq_true, decide_eq_true_iff, decide_eq_true_iff, h, Tr.mk.injEq, and_assoc]
theorem eqTs_iff : ∀ l m : List Tr, eqTs l m = true ↔ l = m
  | [], [] => by simp [eqTs]
  | x :: l, y :: m => by rw [eqTs, Bool.and_eq_true, eqT_iff x y, eqTs_iff l m, List.cons.injEq]
  | [], _ :: _ => by simp [eqTs]
  | _ :: _, [] => by simp [eqTs]
end
theorem eqT_self (t : Tr) : eqT t t = true := (eqT_iff t t).2 rfl
theorem eqTs_self (l : List Tr) : eqTs l l = true := (eqTs_iff l l).2 rfl
theorem eqT_eq (x y : Tr) : eqT x y = (decide (x.rule = y.rule) && decide (x.tok = y.tok) && eqTs x.kids y.kids) := by cases x; cases y; rw [eqT]; rfl
theorem eqTs_len {l m : List Tr} (h : l.length ≠ m.length) : eqTs l m = false := by
  cases he : eqTs l m with
  | false => rfl
  | true => exact absurd (congrArg List.length ((eqTs_iff l m).1 he)) h
theorem eqTs_step {l m : List Tr} {i : Nat} {x y : Tr} (hx : l[i]? = some x) (hy : m[i]? = some y) : eqTs (l.drop i) (m.drop i) = (eqT x y && eqTs (l.drop (i + 1)) (m.drop (i + 1))) := by
  rw [drop_at hx, drop_at hy, eqTs]
mutual
def yieldF : Tr → List Int
  | .mk r t ks => if r = -1 then [t] else yieldsF ks
def yieldsF : List Tr → List Int
  | [] => []
  | t :: ts => yieldF t ++ yieldsF ts
end
theorem yieldF_eq (t : Tr) : yieldF t = if t.rule = -1 then [t.tok] else yieldsF t.kids := by cases t; rw [yieldF]; rfl
theorem yields_step {l : List Tr} {i : Nat} {x : Tr} (hx : l[i]? = some x) : yieldsF (l.drop i) = yieldF x ++ yieldsF (l.drop (i + 1)) := by rw [drop_at hx, yieldsF]
mutual
theorem yieldF_len : ∀ t : Tr, (yieldF t).length ≤ trSize t
  | .mk r t ks => by
    have := yieldsF_len ks
    rw [yieldF, trSize]
    split
    · simp
    · omega
theorem yieldsF_len : ∀ ts : List Tr, (yieldsF ts).length ≤ trsSize ts
  | [] => by simp [yieldsF, trsSize]
  | t :: ts => by
    have := yieldF_len t
    have := yieldsF_len ts
    rw [yieldsF, trsSize, List.length_append]; omega
end
end Go.Proofs.Ytnlmfhnjjblhoaa.Ab
