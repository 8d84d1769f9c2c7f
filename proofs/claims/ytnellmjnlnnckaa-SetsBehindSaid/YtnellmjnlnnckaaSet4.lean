/- Sets of kinds, one object each; steps again and again until nothing comes: plain laws, and a call upon one of the objects. No condition. -/
import Derived.Test.YtnellmjnlnnckaaSet3
set_option linter.unusedVariables false
set_option linter.unusedSimpArgs false
namespace Go.Proofs.Ytnellmjnlnnckaa.Ab
attribute [local irreducible] thenA inBlockA ACode AOps put IntKind.wrap

/-! ### again and again -/
def fixI {α : Type} (R : α → α × Bool) : Nat → α → α
  | 0, x => x
  | q + 1, x => if (R x).2 then fixI R q (R x).1 else (R x).1
theorem fixI_done {α : Type} {R : α → α × Bool} {m : α → Nat} {p : α → Prop} (hp : ∀ x, p x → p (R x).1) (hm : ∀ x, p x → (R x).2 = true → m (R x).1 < m x) : ∀ (q : Nat) (x : α), p x → m x < q → ∃ y, p y ∧ (R y).2 = false ∧ fixI R q x = (R y).1
  | 0, x, _, h => by omega
  | q + 1, x, h, hq => by
    rw [fixI]
    cases hb : (R x).2 with
    | true => exact fixI_done hp hm q _ (hp x h) (by have := hm x h hb; omega)
    | false => exact ⟨x, h, hb, rfl⟩

/-! ### how many are not in a set -/
theorem cnt_le : ∀ (a b : List Bool), a.length = b.length → (∀ i, a.getD i true = true → b.getD i true = true) → b.count false ≤ a.count false ∧ ((∃ i, a.getD i true = false ∧ b.getD i true = true) → b.count false < a.count false)
  | [], [], _, _ => ⟨Nat.le_refl _, fun ⟨i, h, _⟩ => by simp at h⟩
  | [], _ :: _, h, _ => by simp at h
  | _ :: _, [], h, _ => by simp at h
  | x :: a, y :: b, hl, h => by
    have h0 := h 0
    simp only [List.getD_cons_zero] at h0
    obtain ⟨i1, i2⟩ := cnt_le a b (by simpa using hl) (fun i => by simpa only [List.getD_cons_succ] using h (i + 1))
    constructor
    · cases x <;> cases y <;> simp_all <;> omega
    · rintro ⟨i, g1, g2⟩
      cases i with
      | zero =>
        simp only [List.getD_cons_zero] at g1 g2
        subst g1; subst g2
        simp; omega
      | succ i =>
        simp only [List.getD_cons_succ] at g1 g2
        have := i2 ⟨i, g1, g2⟩
        cases x <;> cases y <;> simp_all <;> omega
theorem orL_get {o f : List Bool} {i : Nat} (h : i < o.length) : (orL o f)[i]? = some (o.getD i false || f.getD i false) := by simp [orL, List.getElem?_range h]
theorem orL_getD {o f : List Bool} {i : Nat} (h : i < o.length) (d : Bool) : (orL o f).getD i d = (o.getD i false || f.getD i false) := by
  rw [List.getD_eq_getElem?_getD, orL_get h]; rfl
theorem getD_lt {o : List Bool} {i : Nat} (h : i < o.length) (d e : Bool) : o.getD i d = o.getD i e := by
  rw [List.getD_eq_getElem?_getD, List.getD_eq_getElem?_getD, List.getElem?_eq_getElem h]; rfl
theorem orL_cnt (o f : List Bool) : (orL o f).count false ≤ o.count false ∧ (cameL o f = true → (orL o f).count false < o.count false) := by
  obtain ⟨h1, h2⟩ := cnt_le o (orL o f) (by rw [orL_len]) (fun i h => by
    by_cases hi : i < o.length
    · rw [orL_getD hi, getD_lt hi false true, h]; rfl
    · rw [List.getD_eq_getElem?_getD, List.getElem?_eq_none (by rw [orL_len]; omega)]; rfl)
  refine ⟨h1, fun h => h2 ?_⟩
  obtain ⟨i, hi, hx⟩ := List.any_eq_true.1 h
  have hi' : i < o.length := by simpa using hi
  simp only [Bool.and_eq_true, Bool.not_eq_true'] at hx
  exact ⟨i, by rw [getD_lt hi' true false]; exact hx.2, by rw [orL_getD hi', hx.1]; simp⟩
def totF (F : List (List Bool)) : Nat := (F.map fun x => x.count false).sum
theorem totF_set : ∀ (F : List (List Bool)) (s : Nat) (x y : List Bool), F[s]? = some x → totF (F.set s y) + x.count false = totF F + y.count false
  | [], s, x, y, h => by simp at h
  | z :: F, 0, x, y, h => by
    simp at h; subst h
    simp only [totF, List.set_cons_zero, List.map_cons, List.sum_cons]; omega
  | z :: F, s + 1, x, y, h => by
    have := totF_set F s x y (by simpa using h)
    simp only [totF, List.set_cons_succ, List.map_cons, List.sum_cons] at this ⊢; omega
/-- A set joined to a row's own. -/
def joinS (s : Nat) (f : List Bool) (x : List (List Bool) × Bool) : List (List Bool) × Bool := (x.1.set s (orL (x.1.getD s []) f), cameL (x.1.getD s []) f || x.2)
theorem joinS_len (s : Nat) (f : List Bool) (x : List (List Bool) × Bool) : (joinS s f x).1.length = x.1.length := by simp [joinS]
theorem joinS_all {m : Nat} (s : Nat) (f : List Bool) (x : List (List Bool) × Bool) (h : ∀ y ∈ x.1, y.length = m) : ∀ y ∈ (joinS s f x).1, y.length = m := by
  intro y hy
  by_cases hs : s < x.1.length
  · rcases List.mem_or_eq_of_mem_set hy with h1 | rfl
    · exact h y h1
    · rw [orL_len, List.getD_eq_getElem?_getD, List.getElem?_eq_getElem hs]; exact h _ (List.getElem_mem hs)
  · simp only [joinS] at hy
    rw [List.set_eq_of_length_le (by omega)] at hy
    exact h y hy
theorem joinS_cnt (s : Nat) (f : List Bool) (x : List (List Bool) × Bool) (hs : s < x.1.length) : totF (joinS s f x).1 ≤ totF x.1 ∧ ((joinS s f x).2 = true → x.2 = true ∨ totF (joinS s f x).1 < totF x.1) := by
  have hg : x.1[s]? = some (x.1.getD s []) := by rw [List.getD_eq_getElem?_getD, List.getElem?_eq_getElem hs]; rfl
  have h1 := totF_set x.1 s _ (orL (x.1.getD s []) f) hg
  obtain ⟨h2, h3⟩ := orL_cnt (x.1.getD s []) f
  simp only [joinS]
  refine ⟨by omega, fun h => ?_⟩
  rcases Bool.or_eq_true_iff.1 h with h4 | h4
  · exact .inr (by have := h3 h4; omega)
  · exact .inl h4

/-! ### rows of sets, each an object -/
def ownsA (k : Nat) (bs : List Nat) : List A := bs.map fun b => .own (some b) (k + 1) (k + 1)
def obsZ (k : Nat) (bs : List Nat) (F : List (List Bool)) : List Ob := List.zipWith (fun b x => ⟨some b, (k + 1) * 1, bools x⟩) bs F
theorem ownsA_len (k : Nat) (bs : List Nat) : (ownsA k bs).length = bs.length := by simp [ownsA]
theorem setsA_len (k : Nat) (F : List (List Bool)) : (setsA k F).length = F.length := by simp [setsA]
theorem ownsA_get {k : Nat} {bs : List Nat} {s b : Nat} (h : bs[s]? = some b) : (ownsA k bs)[s * 1]? = some (A.own (some b) (k + 1) (k + 1)) := by rw [Nat.mul_one]; simp [ownsA, h]
theorem obsZ_get {k : Nat} {bs : List Nat} {F : List (List Bool)} {s b : Nat} {x : List Bool} (hb : bs[s]? = some b) (hx : F[s]? = some x) : (obsZ k bs F)[s]? = some ⟨some b, (k + 1) * 1, bools x⟩ := by simp [obsZ, List.getElem?_zipWith, hb, hx]
theorem obsZ_set {k : Nat} : ∀ {bs : List Nat} {F : List (List Bool)} {s b : Nat} (y : List Bool), bs[s]? = some b → (obsZ k bs F).set s ⟨some b, (k + 1) * 1, bools y⟩ = obsZ k bs (F.set s y)
  | [], F, s, b, y, h => by simp at h
  | c :: bs, [], s, b, y, h => by simp [obsZ]
  | c :: bs, z :: F, 0, b, y, h => by simp at h; subst h; rfl
  | c :: bs, z :: F, s + 1, b, y, h => by
    have := obsZ_set (k := k) (F := F) y (by simpa using h : bs[s]? = some b)
    simp only [obsZ, List.zipWith_cons_cons, List.set_cons_succ] at this ⊢
    rw [this]
theorem obsZ_app {k : Nat} {bs cs : List Nat} {F H : List (List Bool)} (h : bs.length = F.length) : obsZ k (bs ++ cs) (F ++ H) = obsZ k bs F ++ obsZ k cs H := by
  unfold obsZ; rw [List.zipWith_append h]
theorem obsZ_len {k n : Nat} {bs : List Nat} {F : List (List Bool)} (h1 : bs.length = n) (h2 : F.length = n) : (obsZ k bs F).length = n := by simp [obsZ, h1, h2]
theorem vw_bools {V : List Ob} (l : List Bool) : VwL V (bools l) (bools l) := VwL.rfl' _
theorem vw_sets {V : List Ob} {k : Nat} : ∀ {bs : List Nat} {F : List (List Bool)}, bs.length = F.length → (∀ x ∈ F, x.length = k + 1) → (∀ o ∈ obsZ k bs F, o ∈ V) → VwL V (ownsA k bs) (setsA k F)
  | [], [], _, _, _ => .nil
  | [], _ :: _, h, _, _ => by simp at h
  | _ :: _, [], h, _, _ => by simp at h
  | b :: bs, x :: F, hl, hx, hv => by
    refine .cons ?_ (vw_sets (by simpa using hl) (fun y hy => hx y (by simp [hy])) (fun o ho => hv o (by simp [obsZ] at ho ⊢; exact .inr ho)))
    exact .own (sz := 1) (room := (k + 1) * 1) (cs := bools x) (hv _ (by simp [obsZ])) rfl (by rw [bools_len, hx x (by simp), Nat.mul_one]) (by decide) (VwL.rfl' _)
theorem perm_at : ∀ {l : List Ob} {i : Nat} {y : Ob}, l[i]? = some y → l.Perm (y :: l.eraseIdx i)
  | [], i, y, h => by simp at h
  | x :: l, 0, y, h => by simp at h; subst h; exact .refl _
  | x :: l, i + 1, y, h => by
    simp at h
    exact ((perm_at h).cons x).trans (.swap _ _ _)
theorem perm_set : ∀ {l : List Ob} {i : Nat} (z : Ob), i < l.length → (z :: l.eraseIdx i).Perm (l.set i z)
  | [], i, z, h => by simp at h
  | x :: l, 0, z, h => .refl _
  | x :: l, i + 1, z, h => by
    simp at h
    exact (List.Perm.swap _ _ _).trans ((perm_set z h).cons x)
theorem looseL_bools : ∀ l : List Bool, looseL (bools l) = true
  | [] => rfl
  | x :: l => by simp only [bools, List.map_cons, looseL, looseA, Bool.true_and]; exact looseL_bools l
/-- A set joined to one of a row's sets. -/
theorem joinN_calls {k : Nat} {bs : List Nat} {F : List (List Bool)} {s b : Nat} {x f : List Bool} (hb : bs[s]? = some b) (hx : F[s]? = some x) (hxl : x.length = k + 1) (hf : f.length = k + 1) (hk : k ≤ 1000) (a0 : List Ob) (M : List Ob) :
    ACalls Try.prog 66 [.own (some b) (k + 1) (k + 1), .psl (k + 1) (bools f)] (a0 ++ (obsZ k bs F ++ M)) (fun r M' => r = .bool (cameL x f) ∧ M' = a0 ++ (obsZ k bs (F.set s (orL x f)) ++ M)) := by
  have hg := obsZ_get (k := k) hb hx
  have hlt := (List.getElem?_eq_some_iff.1 hg).1
  refine acalls_perm (M := ⟨some b, (k + 1) * 1, bools x⟩ :: (a0 ++ ((obsZ k bs F).eraseIdx s ++ M))) ?_ (join_calls b hxl hf (by omega) _) ?_
  · exact (((perm_at hg).append_right M).append_left a0).trans List.perm_middle
  · rintro r M' ⟨rfl, rfl⟩
    refine ⟨_, ?_, rfl, rfl⟩
    rw [← obsZ_set (k := k) (F := F) (orL x f) hb]
    exact List.perm_middle.symm.trans (((perm_set _ hlt).append_right M).append_left a0)
end Go.Proofs.Ytnellmjnlnnckaa.Ab
